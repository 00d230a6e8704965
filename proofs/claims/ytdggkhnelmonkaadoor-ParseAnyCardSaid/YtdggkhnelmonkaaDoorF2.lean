/- Functions of the program, by value. No condition. -/
import Derived.Test.YtdggkhnelmonkaaDoorK1
import Derived.Test.YtdggkhnelmonkaaDoorR1
import Derived.Test.YtdggkhnelmonkaaDoorF1
import Derived.Test.YtdggkhnelmonkaaDoorP26
namespace Go.Pv
open Go.Proofs
set_option maxRecDepth 100000
set_option maxHeartbeats 8000000

/-- prompter/lex.blank -/
abbrev c47_0 : PCode :=
 (.seq (.region [⟨(.some 3), (.mov (.t 0)), .none⟩,
   ⟨(.some 4), (.bin .eql (.t 3) (.c (.d (.int .u8 32)))), .none⟩,
   ⟨(.some 5), (.mov (.t 4)), .none⟩,
   ⟨(.some 6), (.mov (.t 0)), (.some (5, .false))⟩,
   ⟨(.some 7), (.bin .eql (.t 6) (.c (.d (.int .u8 9)))), (.some (5, .false))⟩,
   ⟨(.some 8), (.pick (.t 5) (.c (.d (.bool .true))) (.t 7)), .none⟩,
   ⟨(.some 9), (.mov (.t 8)), .none⟩,
   ⟨(.some 10), (.mov (.t 0)), (.some (9, .false))⟩,
   ⟨(.some 11), (.bin .eql (.t 10) (.c (.d (.int .u8 10)))), (.some (9, .false))⟩,
   ⟨(.some 12), (.pick (.t 9) (.c (.d (.bool .true))) (.t 11)), .none⟩,
   ⟨(.some 2), (.mov (.t 12)), .none⟩])
 .ret)
def c47 : PFun := ⟨
 (.seq (.region [⟨(.some 2), (.mov (.c (.d (.bool .false)))), .none⟩])
 c47_0),
 1, 13, [(.tmp 2)]⟩

/-- prompter/lex.sign -/
abbrev c50_5 : PCode :=
 (.seq (.region [⟨(.some 2), (.mov (.c (.d (.bool .true)))), .none⟩])
 .ret)
abbrev c50_4 : PCode :=
 (.cond (.t 10)
  c50_5
  .skip)
abbrev c50_3 : PCode :=
 (.seq (.region [⟨(.some 7), (.mov (.t 3)), .none⟩,
   ⟨(.some 8), (.idxS (.c (.d (.str (bs [123, 125, 40, 41, 91, 93, 61, 58, 59, 44])))) (.t 7)), .none⟩,
   ⟨(.some 9), (.mov (.t 0)), .none⟩,
   ⟨(.some 10), (.bin .eql (.t 8) (.t 9)), .none⟩])
 c50_4)
abbrev c50_2 : PCode :=
 (.block 1 (.seq (.region [⟨(.some 6), (.mov (.t 4)), .none⟩,
   ⟨(.some 3), (.mov (.t 6)), .none⟩])
 c50_3))
abbrev c50_1 : PCode :=
 (.block 0 (.loop (.some [4, 0]) (.seq (.region [⟨(.some 5), (.bin .lss (.t 4) (.c (.d (.int .i64 10)))), .none⟩])
 (.seq (.cond (.t 5)
  .skip
  (.exit 0))
 (.seq c50_2
 (.region [⟨(.some 11), (.bin .add (.t 4) (.c (.d (.int .i64 1)))), .none⟩,
   ⟨(.some 4), (.mov (.t 11)), .none⟩]))))))
abbrev c50_6 : PCode :=
 (.seq (.region [⟨(.some 2), (.mov (.c (.d (.bool .false)))), .none⟩])
 .ret)
abbrev c50_0 : PCode :=
 (.seq (.seq (.region [⟨(.some 4), (.mov (.c (.d (.int .i64 0)))), .none⟩])
 c50_1)
 c50_6)
def c50 : PFun := ⟨
 (.seq (.region [⟨(.some 2), (.mov (.c (.d (.bool .false)))), .none⟩])
 c50_0),
 1, 12, [(.tmp 2)]⟩

/-- prompter/lex.Split -/
abbrev c21_2 : PCode :=
 (.seq (.region [⟨(.some 2), (.mov (.c (.full []))), .none⟩,
   ⟨(.some 3), (.mov (.c (.d (.int .i64 4000)))), .none⟩,
   ⟨(.some 4), (.mov (.c (.d (.int .i64 6)))), .none⟩])
 .ret)
abbrev c21_1 : PCode :=
 (.cond (.t 11)
  c21_2
  .skip)
abbrev c21_8 : PCode :=
 (.exit 0)
abbrev c21_7 : PCode :=
 (.cond (.t 15)
  .skip
  c21_8)
abbrev c21_14 : PCode :=
 (.keep [0, 5, 6] (.exit 1))
abbrev c21_13 : PCode :=
 (.seq (.region [⟨(.some 24), (.mov (.t 6)), .none⟩,
   ⟨(.some 25), (.bin .add (.t 24) (.c (.d (.int .i64 1)))), .none⟩,
   ⟨(.some 6), (.mov (.t 25)), .none⟩])
 c21_14)
abbrev c21_19 : PCode :=
 (.exit 3)
abbrev c21_18 : PCode :=
 (.cond (.t 38)
  .skip
  c21_19)
abbrev c21_20 : PCode :=
 (.block 4 (.region [⟨(.some 39), (.mov (.t 6)), .none⟩,
   ⟨(.some 40), (.bin .add (.t 39) (.c (.d (.int .i64 1)))), .none⟩,
   ⟨(.some 6), (.mov (.t 40)), .none⟩]))
abbrev c21_21 : PCode :=
 (.exit 1)
abbrev c21_17 : PCode :=
 (.seq (.block 3 (.loop (.some [6, 0, 5]) (.seq (.seq (.region [⟨(.some 29), (.mov (.t 6)), .none⟩,
   ⟨(.some 30), (.mov (.t 0)), .none⟩,
   ⟨(.some 31), (.lenS (.t 30)), .none⟩,
   ⟨(.some 32), (.bin .lss (.t 29) (.t 31)), .none⟩,
   ⟨(.some 33), (.mov (.t 32)), .none⟩,
   ⟨(.some 34), (.mov (.t 0)), (.some (33, .true))⟩,
   ⟨(.some 35), (.mov (.t 6)), (.some (33, .true))⟩,
   ⟨(.some 36), (.idxS (.t 34) (.t 35)), (.some (33, .true))⟩,
   ⟨(.some 37), (.bin .neq (.t 36) (.c (.d (.int .u8 10)))), (.some (33, .true))⟩,
   ⟨(.some 38), (.pick (.t 33) (.t 37) (.c (.d (.bool .false)))), .none⟩])
 c21_18)
 c21_20)))
 c21_21)
abbrev c21_26 : PCode :=
 (.exit 5)
abbrev c21_25 : PCode :=
 (.cond (.t 59)
  .skip
  c21_26)
abbrev c21_27 : PCode :=
 (.block 6 (.region [⟨(.some 60), (.mov (.t 6)), .none⟩,
   ⟨(.some 61), (.bin .add (.t 60) (.c (.d (.int .i64 1)))), .none⟩,
   ⟨(.some 6), (.mov (.t 61)), .none⟩]))
abbrev c21_28 : PCode :=
 (.region [⟨(.some 62), (.mov (.t 5)), .none⟩,
   ⟨(.some 63), (.mov (.t 7)), .none⟩,
   ⟨(.some 64), (.mov (.t 0)), .none⟩,
   ⟨(.some 65), (.mov (.t 7)), .none⟩,
   ⟨(.some 66), (.mov (.t 6)), .none⟩,
   ⟨(.some 67), (.slcS (.t 64) (.some (.t 65)) (.some (.t 66))), .none⟩,
   ⟨(.some 68), (.bld [(.d (.int .u8 0)), (.d (.int .i64 0)), (.d (.str (bs [])))] [(0, (1, (.c (.d (.int .u8 1))))), (1, (1, (.t 63))), (2, (1, (.t 67)))]), .none⟩,
   ⟨(.some 69), (.bsl 3 [(.t 68)]), .none⟩,
   ⟨(.some 70), (.app 3 32 (.t 62) (.t 69)), .none⟩,
   ⟨(.some 5), (.mov (.t 70)), .none⟩])
abbrev c21_24 : PCode :=
 (.seq (.block 5 (.loop (.some [6, 0, 5, 7]) (.seq (.seq (.region [⟨(.some 44), (.mov (.t 6)), .none⟩,
   ⟨(.some 45), (.mov (.t 0)), .none⟩,
   ⟨(.some 46), (.lenS (.t 45)), .none⟩,
   ⟨(.some 47), (.bin .lss (.t 44) (.t 46)), .none⟩,
   ⟨(.some 48), (.mov (.t 47)), .none⟩,
   ⟨(.some 49), (.mov (.t 0)), (.some (48, .true))⟩,
   ⟨(.some 50), (.mov (.t 6)), (.some (48, .true))⟩,
   ⟨(.some 51), (.idxS (.t 49) (.t 50)), (.some (48, .true))⟩,
   ⟨(.some 52), (.call0 48 [(.t 51)]), (.some (48, .true))⟩,
   ⟨(.some 53), (.mov (.t 52)), (.some (48, .true))⟩,
   ⟨(.some 54), (.mov (.t 0)), (.some (53, .false))⟩,
   ⟨(.some 55), (.mov (.t 6)), (.some (53, .false))⟩,
   ⟨(.some 56), (.idxS (.t 54) (.t 55)), (.some (53, .false))⟩,
   ⟨(.some 57), (.call0 49 [(.t 56)]), (.some (53, .false))⟩,
   ⟨(.some 58), (.pick (.t 53) (.c (.d (.bool .true))) (.t 57)), (.some (48, .true))⟩,
   ⟨(.some 59), (.pick (.t 48) (.t 58) (.c (.d (.bool .false)))), .none⟩])
 c21_25)
 c21_27)))
 c21_28)
abbrev c21_33 : PCode :=
 (.exit 7)
abbrev c21_32 : PCode :=
 (.cond (.t 83)
  .skip
  c21_33)
abbrev c21_34 : PCode :=
 (.block 8 (.region [⟨(.some 84), (.mov (.t 6)), .none⟩,
   ⟨(.some 85), (.bin .add (.t 84) (.c (.d (.int .i64 1)))), .none⟩,
   ⟨(.some 6), (.mov (.t 85)), .none⟩]))
abbrev c21_37 : PCode :=
 (.seq (.region [⟨(.some 100), (.mov (.t 7)), .none⟩,
   ⟨(.some 2), (.mov (.c (.full []))), .none⟩,
   ⟨(.some 3), (.mov (.t 100)), .none⟩,
   ⟨(.some 4), (.mov (.c (.d (.int .i64 22)))), .none⟩])
 .ret)
abbrev c21_36 : PCode :=
 (.cond (.t 99)
  c21_37
  .skip)
abbrev c21_38 : PCode :=
 (.keep [0, 5, 6, 7] (.region [⟨(.some 101), (.mov (.t 5)), .none⟩,
   ⟨(.some 102), (.mov (.t 7)), .none⟩,
   ⟨(.some 103), (.mov (.t 0)), .none⟩,
   ⟨(.some 104), (.mov (.t 7)), .none⟩,
   ⟨(.some 105), (.mov (.t 6)), .none⟩,
   ⟨(.some 106), (.slcS (.t 103) (.some (.t 104)) (.some (.t 105))), .none⟩,
   ⟨(.some 107), (.bld [(.d (.int .u8 0)), (.d (.int .i64 0)), (.d (.str (bs [])))] [(0, (1, (.c (.d (.int .u8 2))))), (1, (1, (.t 102))), (2, (1, (.t 106)))]), .none⟩,
   ⟨(.some 108), (.bsl 3 [(.t 107)]), .none⟩,
   ⟨(.some 109), (.app 3 32 (.t 101) (.t 108)), .none⟩,
   ⟨(.some 5), (.mov (.t 109)), .none⟩]))
abbrev c21_35 : PCode :=
 (.seq (.seq (.region [⟨(.some 86), (.mov (.t 6)), .none⟩,
   ⟨(.some 87), (.mov (.t 7)), .none⟩,
   ⟨(.some 88), (.bin .sub (.t 86) (.t 87)), .none⟩,
   ⟨(.some 89), (.bin .gtr (.t 88) (.c (.d (.int .i64 10)))), .none⟩,
   ⟨(.some 90), (.mov (.t 89)), .none⟩,
   ⟨(.some 91), (.mov (.t 8)), (.some (90, .false))⟩,
   ⟨(.some 92), (.bin .eql (.t 91) (.c (.d (.int .u8 48)))), (.some (90, .false))⟩,
   ⟨(.some 93), (.mov (.t 92)), (.some (90, .false))⟩,
   ⟨(.some 94), (.mov (.t 6)), (.some (93, .true))⟩,
   ⟨(.some 95), (.mov (.t 7)), (.some (93, .true))⟩,
   ⟨(.some 96), (.bin .sub (.t 94) (.t 95)), (.some (93, .true))⟩,
   ⟨(.some 97), (.bin .gtr (.t 96) (.c (.d (.int .i64 1)))), (.some (93, .true))⟩,
   ⟨(.some 98), (.pick (.t 93) (.t 97) (.c (.d (.bool .false)))), (.some (90, .false))⟩,
   ⟨(.some 99), (.pick (.t 90) (.c (.d (.bool .true))) (.t 98)), .none⟩])
 c21_36)
 c21_38)
abbrev c21_31 : PCode :=
 (.seq (.block 7 (.loop (.some [6, 0, 5, 7, 8]) (.seq (.seq (.region [⟨(.some 74), (.mov (.t 6)), .none⟩,
   ⟨(.some 75), (.mov (.t 0)), .none⟩,
   ⟨(.some 76), (.lenS (.t 75)), .none⟩,
   ⟨(.some 77), (.bin .lss (.t 74) (.t 76)), .none⟩,
   ⟨(.some 78), (.mov (.t 77)), .none⟩,
   ⟨(.some 79), (.mov (.t 0)), (.some (78, .true))⟩,
   ⟨(.some 80), (.mov (.t 6)), (.some (78, .true))⟩,
   ⟨(.some 81), (.idxS (.t 79) (.t 80)), (.some (78, .true))⟩,
   ⟨(.some 82), (.call0 49 [(.t 81)]), (.some (78, .true))⟩,
   ⟨(.some 83), (.pick (.t 78) (.t 82) (.c (.d (.bool .false)))), .none⟩])
 c21_32)
 c21_34)))
 c21_35)
abbrev c21_42 : PCode :=
 (.region [⟨(.some 115), (.mov (.t 5)), .none⟩,
   ⟨(.some 116), (.mov (.t 7)), .none⟩,
   ⟨(.some 117), (.mov (.t 0)), .none⟩,
   ⟨(.some 118), (.mov (.t 7)), .none⟩,
   ⟨(.some 119), (.mov (.t 6)), .none⟩,
   ⟨(.some 120), (.slcS (.t 117) (.some (.t 118)) (.some (.t 119))), .none⟩,
   ⟨(.some 121), (.bld [(.d (.int .u8 0)), (.d (.int .i64 0)), (.d (.str (bs [])))] [(0, (1, (.c (.d (.int .u8 3))))), (1, (1, (.t 116))), (2, (1, (.t 120)))]), .none⟩,
   ⟨(.some 122), (.bsl 3 [(.t 121)]), .none⟩,
   ⟨(.some 123), (.app 3 32 (.t 115) (.t 122)), .none⟩,
   ⟨(.some 5), (.mov (.t 123)), .none⟩])
abbrev c21_41 : PCode :=
 (.seq (.region [⟨(.some 113), (.mov (.t 6)), .none⟩,
   ⟨(.some 114), (.bin .add (.t 113) (.c (.d (.int .i64 1)))), .none⟩,
   ⟨(.some 6), (.mov (.t 114)), .none⟩])
 c21_42)
abbrev c21_43 : PCode :=
 (.seq (.region [⟨(.some 20), (.mov (.t 7)), .none⟩,
   ⟨(.some 2), (.mov (.c (.full []))), .none⟩,
   ⟨(.some 3), (.mov (.t 20)), .none⟩,
   ⟨(.some 4), (.mov (.c (.d (.int .i64 13)))), .none⟩])
 .ret)
abbrev c21_40 : PCode :=
 (.cond (.t 110)
  c21_41
  c21_43)
abbrev c21_39 : PCode :=
 (.seq (.region [⟨(.some 111), (.mov (.t 8)), .none⟩,
   ⟨(.some 112), (.call0 50 [(.t 111)]), .none⟩,
   ⟨(.some 110), (.mov (.t 112)), .none⟩])
 c21_40)
abbrev c21_30 : PCode :=
 (.cond (.t 71)
  c21_31
  c21_39)
abbrev c21_29 : PCode :=
 (.seq (.region [⟨(.some 72), (.mov (.t 8)), .none⟩,
   ⟨(.some 73), (.call0 49 [(.t 72)]), .none⟩,
   ⟨(.some 71), (.mov (.t 73)), .none⟩])
 c21_30)
abbrev c21_23 : PCode :=
 (.cond (.t 41)
  c21_24
  c21_29)
abbrev c21_22 : PCode :=
 (.seq (.region [⟨(.some 42), (.mov (.t 8)), .none⟩,
   ⟨(.some 43), (.call0 48 [(.t 42)]), .none⟩,
   ⟨(.some 41), (.mov (.t 43)), .none⟩])
 c21_23)
abbrev c21_16 : PCode :=
 (.cond (.t 26)
  c21_17
  c21_22)
abbrev c21_15 : PCode :=
 (.seq (.region [⟨(.some 27), (.mov (.t 8)), .none⟩,
   ⟨(.some 28), (.bin .eql (.t 27) (.c (.d (.int .u8 35)))), .none⟩,
   ⟨(.some 26), (.mov (.t 28)), .none⟩])
 c21_16)
abbrev c21_12 : PCode :=
 (.cond (.t 21)
  c21_13
  c21_15)
abbrev c21_11 : PCode :=
 (.keep [0, 5, 6, 7, 8] (.block 2 (.seq (.region [⟨(.some 22), (.mov (.t 8)), .none⟩,
   ⟨(.some 23), (.call0 47 [(.t 22)]), .none⟩,
   ⟨(.some 21), (.mov (.t 23)), .none⟩])
 c21_12)))
abbrev c21_10 : PCode :=
 (.seq (.region [⟨(.some 17), (.mov (.t 0)), .none⟩,
   ⟨(.some 18), (.mov (.t 6)), .none⟩,
   ⟨(.some 19), (.idxS (.t 17) (.t 18)), .none⟩,
   ⟨(.some 8), (.mov (.t 19)), .none⟩])
 c21_11)
abbrev c21_9 : PCode :=
 (.block 1 (.seq (.region [⟨(.some 16), (.mov (.t 6)), .none⟩,
   ⟨(.some 7), (.mov (.t 16)), .none⟩])
 c21_10))
abbrev c21_6 : PCode :=
 (.block 0 (.loop (.some [5, 6, 0]) (.seq (.seq (.region [⟨(.some 12), (.mov (.t 6)), .none⟩,
   ⟨(.some 13), (.mov (.t 0)), .none⟩,
   ⟨(.some 14), (.lenS (.t 13)), .none⟩,
   ⟨(.some 15), (.bin .lss (.t 12) (.t 14)), .none⟩])
 c21_7)
 c21_9)))
abbrev c21_44 : PCode :=
 (.seq (.region [⟨(.some 124), (.mov (.t 5)), .none⟩,
   ⟨(.some 125), (.mov (.t 0)), .none⟩,
   ⟨(.some 126), (.lenS (.t 125)), .none⟩,
   ⟨(.some 127), (.bld [(.d (.int .u8 0)), (.d (.int .i64 0)), (.d (.str (bs [])))] [(0, (1, (.c (.d (.int .u8 0))))), (1, (1, (.t 126)))]), .none⟩,
   ⟨(.some 128), (.bsl 3 [(.t 127)]), .none⟩,
   ⟨(.some 129), (.app 3 32 (.t 124) (.t 128)), .none⟩,
   ⟨(.some 2), (.mov (.t 129)), .none⟩,
   ⟨(.some 3), (.mov (.c (.d (.int .i64 0)))), .none⟩,
   ⟨(.some 4), (.mov (.c (.d (.int .i64 0)))), .none⟩])
 .ret)
abbrev c21_5 : PCode :=
 (.seq (.seq (.region [⟨(.some 6), (.mov (.c (.d (.int .i64 0)))), .none⟩])
 c21_6)
 c21_44)
abbrev c21_4 : PCode :=
 (.seq .skip
 c21_5)
abbrev c21_3 : PCode :=
 (.keep [0] (.seq (.region [⟨(.some 5), (.mov (.c (.full []))), .none⟩])
 c21_4))
abbrev c21_0 : PCode :=
 (.keep [0] (.seq (.seq (.region [⟨(.some 9), (.mov (.t 0)), .none⟩,
   ⟨(.some 10), (.lenS (.t 9)), .none⟩,
   ⟨(.some 11), (.bin .gtr (.t 10) (.c (.d (.int .i64 4000)))), .none⟩])
 c21_1)
 c21_3))
def c21 : PFun := ⟨
 (.seq (.region [⟨(.some 2), (.mov (.c (.full []))), .none⟩,
   ⟨(.some 3), (.mov (.c (.d (.int .i64 0)))), .none⟩,
   ⟨(.some 4), (.mov (.c (.d (.int .i64 0)))), .none⟩])
 c21_0),
 1, 130, [(.tmp 2), (.tmp 3), (.tmp 4)]⟩

/-- (prompter/lex.Token).Value -/
abbrev c76_6 : PCode :=
 (.region [⟨(.some 15), (.mov (.t 3)), .none⟩,
   ⟨(.some 16), (.bin .mul (.t 15) (.c (.d (.int .i64 10)))), .none⟩,
   ⟨(.some 17), (.faddr 2 (.t 1)), .none⟩,
   ⟨(.some 18), (.load .false 1 (.t 17) .false), .none⟩,
   ⟨(.some 19), (.mov (.t 4)), .none⟩,
   ⟨(.some 20), (.idxS (.t 18) (.t 19)), .none⟩,
   ⟨(.some 21), (.bin .sub (.t 20) (.c (.d (.int .u8 48)))), .none⟩,
   ⟨(.some 22), (.cvt .i64 (.t 21)), .none⟩,
   ⟨(.some 23), (.bin .add (.t 16) (.t 22)), .none⟩,
   ⟨(.some 3), (.mov (.t 23)), .none⟩])
abbrev c76_5 : PCode :=
 (.block 1 (.seq (.region [⟨(.some 14), (.mov (.t 12)), .none⟩,
   ⟨(.some 4), (.mov (.t 14)), .none⟩])
 c76_6))
abbrev c76_4 : PCode :=
 (.keep [1, 3, 11, 12] (.block 0 (.loop (.some [12, 3, 1, 11]) (.seq (.region [⟨(.some 13), (.bin .lss (.t 12) (.t 11)), .none⟩])
 (.seq (.cond (.t 13)
  .skip
  (.exit 0))
 (.seq c76_5
 (.region [⟨(.some 24), (.bin .add (.t 12) (.c (.d (.int .i64 1)))), .none⟩,
   ⟨(.some 12), (.mov (.t 24)), .none⟩])))))))
abbrev c76_3 : PCode :=
 (.seq (.region [⟨(.some 8), (.faddr 2 (.t 1)), .none⟩,
   ⟨(.some 9), (.load .false 1 (.t 8) .false), .none⟩,
   ⟨(.some 10), (.lenS (.t 9)), .none⟩,
   ⟨(.some 11), (.minmax .false (.t 10) [(.c (.d (.int .i64 18)))]), .none⟩,
   ⟨(.some 12), (.mov (.c (.d (.int .i64 0)))), .none⟩])
 c76_4)
abbrev c76_2 : PCode :=
 (.cond (.t 7)
  c76_3
  .skip)
abbrev c76_7 : PCode :=
 (.keep [3] (.seq (.region [⟨(.some 25), (.mov (.t 3)), .none⟩,
   ⟨(.some 2), (.mov (.t 25)), .none⟩])
 .ret))
abbrev c76_1 : PCode :=
 (.seq (.seq (.region [⟨(.some 5), (.faddr 0 (.t 1)), .none⟩,
   ⟨(.some 6), (.load .false 1 (.t 5) .false), .none⟩,
   ⟨(.some 7), (.bin .eql (.t 6) (.c (.d (.int .u8 2)))), .none⟩])
 c76_2)
 c76_7)
abbrev c76_0 : PCode :=
 (.seq (.region [⟨(.some 3), (.mov (.c (.d (.int .i64 0)))), .none⟩])
 c76_1)
def c76 : PFun := ⟨
 (.seq (.region [⟨(.some 1), (.box 3 (.t 0)), .none⟩,
   ⟨(.some 2), (.mov (.c (.d (.int .i64 0)))), .none⟩])
 c76_0),
 1, 26, [(.tmp 2)]⟩

theorem e47 : entered Tryd.prog 47 = true := by kernel_rfl
theorem k47 : compFun Tryd.prog (fun _ => 0) 47 = some c47.er := by kernel_rfl
theorem e50 : entered Tryd.prog 50 = true := by kernel_rfl
theorem k50 : compFun Tryd.prog (fun _ => 0) 50 = some c50.er := by kernel_rfl
theorem e21 : entered Tryd.prog 21 = true := by kernel_rfl
theorem k21 : compFun Tryd.prog (fun _ => 0) 21 = some c21.er := by kernel_rfl
theorem e76 : entered Tryd.prog 76 = true := by kernel_rfl
theorem k76 : compFun Tryd.prog (fun _ => 0) 76 = some c76.er := by kernel_rfl

theorem C47 (n : Int) : Pure (PCalls Tryd.prog GK) 47 [.d (.int .u8 n)] (b2 (blankB n)) := by
  intro st; refine pcalls_of k47 e47 (of_decide_eq_true rfl) ?_; dsimp only [c47]; refine pstartL ?_; intro t hL; generalize hQ : pfin _ _ = Q
  refine gor hL ?_; (repeat (clear hL; intro t hL; refine gor hL ?_))
  unfold blankB at hQ
  cases h1 : n == 32 with
  | true =>
    rw [h1] at hQ
    refine gor hL ?_; (repeat (clear hL; intro t hL; refine gor hL ?_))
    rw [← hQ]
    exact pfin_pure rfl hL.le
  | false =>
    rw [h1] at hQ
    refine gor hL ?_; (repeat (clear hL; intro t hL; refine gor hL ?_))
    cases h2 : n == 9 with
    | true =>
      rw [h2] at hQ
      refine gor hL ?_; (repeat (clear hL; intro t hL; refine gor hL ?_))
      rw [← hQ]
      exact pfin_pure rfl hL.le
    | false =>
      rw [h2] at hQ
      refine gor hL ?_; (repeat (clear hL; intro t hL; refine gor hL ?_))
      rw [← hQ]
      exact pfin_pure rfl hL.le
theorem C50 (n : Int) : Pure (PCalls Tryd.prog GK) 50 [.d (.int .u8 n)] (b2 (signB n)) := by
  intro st; refine pcalls_of k50 e50 (of_decide_eq_true rfl) ?_; dsimp only [c50]; refine pstartL ?_; intro t hL; generalize hQ : pfin _ _ = Q
  refine gor hL ?_; (repeat (clear hL; intro t hL; refine gor hL ?_))
  (apply prangeJ (10) (by omega) (fun k t => Lay st [] t ∧ ∀ j, j < k → (byteAt signsB j == n) = false)); (· exact trimA); (· exact fun _ => rfl)
  · exact ⟨hL, fun j h => by omega⟩
  · rintro t ⟨hL, hI⟩
    have e : signB n = false := List.any_eq_false.2 fun j hj => by rw [hI j (List.mem_range.1 hj)]; simp
    rw [e] at hQ
    refine gor hL ?_; (repeat (clear hL; intro t hL; refine gor hL ?_))
    rw [← hQ]
    exact pfin_pure rfl hL.le
  · rintro k hk t ⟨hL, hI⟩
    refine pblock ?_
    refine gor hL ?_; (repeat (clear hL; intro t hL; refine gor hL ?_))
    cases h1 : byteAt signsB k == n with
    | true =>
      have e : signB n = true := List.any_eq_true.2 ⟨k, List.mem_range.2 hk, h1⟩
      rw [e] at hQ
      refine gnm ?_; rw [show (byteAt (bs [123, 125, 40, 41, 91, 93, 61, 58, 59, 44]) k == n) = true from h1]
      refine gor hL ?_; (repeat (clear hL; intro t hL; refine gor hL ?_))
      rw [← hQ]
      exact pfin_pure rfl hL.le
    | false =>
      refine gnm ?_; rw [show (byteAt (bs [123, 125, 40, 41, 91, 93, 61, 58, 59, 44]) k == n) = false from h1]
      refine gor hL ?_; (repeat (clear hL; intro t hL; refine gor hL ?_))
      exact ⟨⟨hL, fun j hj => by
        rcases Nat.lt_succ_iff_lt_or_eq.1 hj with h | rfl
        · exact hI j h
        · exact h1⟩, tr2⟩
theorem weakA_d {a : AV} {d : Dat} (h : a.weak = .d d) : a.weakA = .d d := by
  cases a <;> simp_all [AV.weak, AV.weakA]
def lexAV : LexO → AV
  | .ok l => .tup [.d (.sl (l.map LTok.row)), .d (.int .i64 0), .d (.int .i64 0)]
  | .bad p e => .tup [.d (.sl []), .d (.int .i64 p), .d (.int .i64 e)]
theorem C21 (s : ByteArray) (hsz : s.size < 2 ^ 62) : Pure (PCalls Tryd.prog GK) 21 [.d (.str s)] (lexAV (lexM s)) := by
  intro st; refine pcalls_of k21 e21 (of_decide_eq_true rfl) ?_; dsimp only [c21]; refine pstartL ?_; intro t hL; generalize hQ : pfin _ _ = Q
  refine gor hL ?_; (repeat (clear hL; intro t hL; refine gor hL ?_))
  by_cases h4 : s.size ≤ 4000
  rotate_left
  · have e : lexM s = .bad 4000 6 := if_pos (by omega)
    rw [e] at hQ
    refine gnm ?_; rw [show decide ((s.size : Int) > 4000) = true from decide_eq_true (by omega)]
    refine gor hL ?_; (repeat (clear hL; intro t hL; refine gor hL ?_))
    rw [← hQ]
    exact pfin_weak rfl rfl hL.le
  have e : lexM s = match lexGo s (s.size + 1) 0 [] with | .ok l => .ok (l ++ [⟨0, s.size, bs []⟩]) | o => o := if_neg (by omega)
  rw [e] at hQ
  clear e
  refine gnm ?_; rw [show decide ((s.size : Int) > 4000) = false from decide_eq_false (by omega)]
  refine gor hL ?_; (repeat (clear hL; intro t hL; refine gor hL ?_))
  generalize hO : lexGo s (s.size + 1) 0 [] = o at *
  refine pblock ?_
  refine ploop (fun (g : Nat) u t => ∃ (i : Nat) (a : AV) (out : List LTok), i ≤ s.size ∧ s.size - i < g ∧ out.length ≤ i ∧ u = put (put (put (fun _ => .undef) (some 0) (.d (.str s))) (some 6) (i64 i)) (some 5) a ∧ Lay st [.vec a (out.map LTok.row) 3] t ∧ lexGo s g i out = o) ?_ (m := s.size + 1) ⟨0, .full [], [], by omega, by omega, Nat.le_refl _, (by first | exact trimA | simp +decide only [pvc, pvi, pvt]), hL.full [] 3, hO⟩
  clear hL
  rintro g u t ⟨i, a, out, hi, hg, hol, rfl, hL, hgo⟩
  obtain ⟨g, rfl⟩ := Nat.exists_eq_succ_of_ne_zero (show g ≠ 0 by omega)
  have fa := hL.vk a
  obtain ⟨fa_r, fa_w, fa_w1, fa_c, fa_s, fa_d⟩ := id fa
  have hr3 : ∀ r ∈ out.map LTok.row, r.length = 3 := fun r hr => by obtain ⟨x, _, rfl⟩ := List.mem_map.1 hr; rfl
  rw [lexGo] at hgo
  refine gor hL ?_; (repeat (clear hL; intro t hL; refine gor hL ?_))
  by_cases hlt : i < s.size
  rotate_left
  · rw [if_neg hlt] at hgo
    subst hgo
    refine gnm ?_; rw [show decide ((i : Int) < (s.size : Int)) = false from decide_eq_false (by omega)]
    refine gor hL ?_; (repeat (clear hL; intro t hL; refine gor hL ?_))
    refine po_appA hL hr3 ?_ ?_; (· simp; omega); clear hL; intro a' t f' hL; obtain ⟨f'_r, f'_w, f'_w1, f'_c, f'_s, f'_d⟩ := id f'
    refine gor hL ?_; (repeat (clear hL; intro t hL; refine gor hL ?_))
    rw [← hQ]
    refine pfin_weak (u := .tup [a', .d (.int .i64 0), .d (.int .i64 0)]) rfl ?_ hL.le
    simp only [AV.weak, List.map_cons, List.map_nil, lexAV, List.map_append]
    rw [weakA_d f'_w]
    rfl
  rw [if_pos hlt] at hgo
  refine gnm ?_; rw [show decide ((i : Int) < (s.size : Int)) = true from decide_eq_true (by omega)]
  refine gor hL ?_; (repeat (clear hL; intro t hL; refine gor hL ?_))
  refine po_c0 (C47 (byteAt s i)) ?_
  refine gor hL ?_; (repeat (clear hL; intro t hL; refine gor hL ?_))
  have ei : IntKind.i64.wrap ((i : Int) + 1) = ((i + 1 : Nat) : Int) := (IntWalk.i64_in _ (by omega)).trans (by omega)
  cases hb : blankB (byteAt s i) with
  | true =>
    rw [hb, if_pos rfl] at hgo
    refine gor hL ?_; (repeat (clear hL; intro t hL; refine gor hL ?_))
    refine gnm ?_; rw [ei]
    refine gor hL ?_; (repeat (clear hL; intro t hL; refine gor hL ?_))
    exact ⟨g, by omega, i + 1, a, out, by omega, by omega, by (try simp); omega, by first | rfl | simp +decide only [pvc, pvi, pvt], hL.pk, hgo⟩
  | false =>
  rw [hb, if_neg (by simp)] at hgo
  refine gor hL ?_; (repeat (clear hL; intro t hL; refine gor hL ?_))
  by_cases h35 : byteAt s i = 35
  · rw [if_pos h35] at hgo
    have hP : restB (byteAt s i) = true := by rw [h35]; rfl
    refine gnm ?_; rw [show (byteAt s i == 35) = true by simpa using h35]
    refine gor hL ?_; (repeat (clear hL; intro t hL; refine gor hL ?_))
    refine pblock (pupA (s.size - i) (fun k u t => u = put (put (put (fun _ => .undef) (some 5) a) (some 0) (.d (.str s))) (some 6) (i64 (i + k : Nat)) ∧ Lay st [.vec a (out.map LTok.row) 3] t ∧ ∀ j, j < k → restB (byteAt s (i + j)) = true) ⟨(by first | exact trimA | simp +decide only [pvc, pvi, pvt]), hL, fun j h => by omega⟩ ?_)
    clear hL
    rintro k u t hk ⟨rfl, hL, hI⟩
    have fin : spanB restB s i = i + k → 1 ≤ k := fun h => by have := spanB_pos hlt hP; omega
    refine gor hL ?_; (repeat (clear hL; intro t hL; refine gor hL ?_))
    by_cases hik : i + k < s.size
    rotate_left
    · have hsp : spanB restB s i = i + k := spanB_to hI (by omega) (.inl (by omega))
      have hk1 := fin hsp
      rw [hsp] at hgo
      refine gnm ?_; rw [show decide (((i + k : Nat) : Int) < (s.size : Int)) = false from decide_eq_false (by omega)]
      refine gor hL ?_; (repeat (clear hL; intro t hL; refine gor hL ?_))
      exact ⟨g, by omega, i + k, a, out, by omega, by omega, by (try simp); omega, by first | rfl | simp +decide only [pvc, pvi, pvt], hL.pk, hgo⟩
    · refine gnm ?_; rw [show decide (((i + k : Nat) : Int) < (s.size : Int)) = true from decide_eq_true (by omega)]
      refine gor hL ?_; (repeat (clear hL; intro t hL; refine gor hL ?_))
      have ek : IntKind.i64.wrap (((i + k : Nat) : Int) + 1) = ((i + (k + 1) : Nat) : Int) := (IntWalk.i64_in _ (by omega)).trans (by omega)
      have hn : restB (byteAt s (i + k)) = true → ∀ j, j < k + 1 → restB (byteAt s (i + j)) = true := fun h j hj => by
        rcases Nat.lt_succ_iff_lt_or_eq.1 hj with hj | rfl
        · exact hI j hj
        · exact h
      have hx : restB (byteAt s (i + k)) = false → spanB restB s i = i + k := fun h => spanB_to hI (by omega) (.inr h)
      cases hc : byteAt s (i + k) != 10 with
      | true =>
        refine gor hL ?_; (repeat (clear hL; intro t hL; refine gor hL ?_))
        refine pblock ?_
        refine gor hL ?_; (repeat (clear hL; intro t hL; refine gor hL ?_))
        refine gnm ?_; rw [ek]
        exact ⟨by omega, by first | rfl | simp +decide only [pvc, pvi, pvt], hL.pk, hn (hc)⟩
      | false =>
        have hsp := hx (hc)
        have hk1 := fin hsp
        rw [hsp] at hgo
        refine gor hL ?_; (repeat (clear hL; intro t hL; refine gor hL ?_))
        exact ⟨g, by omega, i + k, a, out, by omega, by omega, by (try simp); omega, by first | rfl | simp +decide only [pvc, pvi, pvt], hL.pk, hgo⟩
  rw [if_neg h35] at hgo
  refine gnm ?_; rw [show (byteAt s i == 35) = false by simpa using h35]
  refine gor hL ?_; (repeat (clear hL; intro t hL; refine gor hL ?_))
  refine po_c0 (C48 (byteAt s i)) ?_
  refine gor hL ?_; (repeat (clear hL; intro t hL; refine gor hL ?_))
  cases hl : letter (byteAt s i) with
  | true =>
    rw [hl, if_pos rfl] at hgo
    have hP : wordB (byteAt s i) = true := by simp [wordB, hl]
    refine gor hL ?_; (repeat (clear hL; intro t hL; refine gor hL ?_))
    refine pblock (pupA (s.size - i) (fun k u t => u = put (put (put (put (fun _ => .undef) (some 7) (i64 i)) (some 5) a) (some 0) (.d (.str s))) (some 6) (i64 (i + k : Nat)) ∧ Lay st [.vec a (out.map LTok.row) 3] t ∧ ∀ j, j < k → wordB (byteAt s (i + j)) = true) ⟨(by first | exact trimA | simp +decide only [pvc, pvi, pvt]), hL, fun j h => by omega⟩ ?_)
    clear hL
    rintro k u t hk ⟨rfl, hL, hI⟩
    have fin : spanB wordB s i = i + k → 1 ≤ k := fun h => by have := spanB_pos hlt hP; omega
    refine gor hL ?_; (repeat (clear hL; intro t hL; refine gor hL ?_))
    by_cases hik : i + k < s.size
    rotate_left
    · have hsp : spanB wordB s i = i + k := spanB_to hI (by omega) (.inl (by omega))
      have hk1 := fin hsp
      rw [hsp] at hgo
      refine gnm ?_; rw [show decide (((i + k : Nat) : Int) < (s.size : Int)) = false from decide_eq_false (by omega)]
      refine gor hL ?_; (repeat (clear hL; intro t hL; refine gor hL ?_))
      refine po rfl (slc_str (i := (i : Int)) (j := ((i + k : Nat) : Int)) rfl rfl rfl (by omega) (by omega) (by omega)) ?_
      refine gor hL ?_; (repeat (clear hL; intro t hL; refine gor hL ?_))
      refine po_appA hL hr3 ?_ ?_; (· simp; omega); clear hL; intro a' t f' hL; obtain ⟨f'_r, f'_w, f'_w1, f'_c, f'_s, f'_d⟩ := id f'
      rw [show out.map LTok.row ++ [[Dat.int .u8 1, .int .i64 (i : Int), .str (s.extract (i : Int).toNat ((i + k : Nat) : Int).toNat)]] = (out ++ [LTok.mk 1 i (s.extract i (i + k))]).map LTok.row by rw [List.map_append, Int.toNat_natCast, Int.toNat_natCast]; rfl] at hL
      refine gor hL ?_; (repeat (clear hL; intro t hL; refine gor hL ?_))
      exact ⟨g, by omega, i + k, a', (out ++ [LTok.mk 1 i (s.extract i (i + k))]), by omega, by omega, by (try simp); omega, by first | rfl | simp +decide only [pvc, pvi, pvt], hL.pk, hgo⟩
    · refine gnm ?_; rw [show decide (((i + k : Nat) : Int) < (s.size : Int)) = true from decide_eq_true (by omega)]
      refine gor hL ?_; (repeat (clear hL; intro t hL; refine gor hL ?_))
      have ek : IntKind.i64.wrap (((i + k : Nat) : Int) + 1) = ((i + (k + 1) : Nat) : Int) := (IntWalk.i64_in _ (by omega)).trans (by omega)
      have hn : wordB (byteAt s (i + k)) = true → ∀ j, j < k + 1 → wordB (byteAt s (i + j)) = true := fun h j hj => by
        rcases Nat.lt_succ_iff_lt_or_eq.1 hj with hj | rfl
        · exact hI j hj
        · exact h
      have hx : wordB (byteAt s (i + k)) = false → spanB wordB s i = i + k := fun h => spanB_to hI (by omega) (.inr h)
      refine po_c0 (C48 (byteAt s (i + k))) ?_
      refine gor hL ?_; (repeat (clear hL; intro t hL; refine gor hL ?_))
      cases hc : letter (byteAt s (i + k)) with
      | true =>
        refine gor hL ?_; (repeat (clear hL; intro t hL; refine gor hL ?_))
        refine pblock ?_
        refine gor hL ?_; (repeat (clear hL; intro t hL; refine gor hL ?_))
        refine gnm ?_; rw [ek]
        exact ⟨by omega, by first | rfl | simp +decide only [pvc, pvi, pvt], hL.pk, hn (by simp [wordB, hc])⟩
      | false =>
        refine gor hL ?_; (repeat (clear hL; intro t hL; refine gor hL ?_))
        refine po_c0 (C49 (byteAt s (i + k))) ?_
        refine gor hL ?_; (repeat (clear hL; intro t hL; refine gor hL ?_))
        cases hd : digit (byteAt s (i + k)) with
        | true =>
          refine gor hL ?_; (repeat (clear hL; intro t hL; refine gor hL ?_))
          refine pblock ?_
          refine gor hL ?_; (repeat (clear hL; intro t hL; refine gor hL ?_))
          refine gnm ?_; rw [ek]
          exact ⟨by omega, by first | rfl | simp +decide only [pvc, pvi, pvt], hL.pk, hn (by simp [wordB, hc, hd])⟩
        | false =>
          have hsp := hx (by simp [wordB, hc, hd])
          have hk1 := fin hsp
          rw [hsp] at hgo
          refine gor hL ?_; (repeat (clear hL; intro t hL; refine gor hL ?_))
          refine po rfl (slc_str (i := (i : Int)) (j := ((i + k : Nat) : Int)) rfl rfl rfl (by omega) (by omega) (by omega)) ?_
          refine gor hL ?_; (repeat (clear hL; intro t hL; refine gor hL ?_))
          refine po_appA hL hr3 ?_ ?_; (· simp; omega); clear hL; intro a' t f' hL; obtain ⟨f'_r, f'_w, f'_w1, f'_c, f'_s, f'_d⟩ := id f'
          rw [show out.map LTok.row ++ [[Dat.int .u8 1, .int .i64 (i : Int), .str (s.extract (i : Int).toNat ((i + k : Nat) : Int).toNat)]] = (out ++ [LTok.mk 1 i (s.extract i (i + k))]).map LTok.row by rw [List.map_append, Int.toNat_natCast, Int.toNat_natCast]; rfl] at hL
          refine gor hL ?_; (repeat (clear hL; intro t hL; refine gor hL ?_))
          exact ⟨g, by omega, i + k, a', (out ++ [LTok.mk 1 i (s.extract i (i + k))]), by omega, by omega, by (try simp); omega, by first | rfl | simp +decide only [pvc, pvi, pvt], hL.pk, hgo⟩
  | false =>
  rw [hl, if_neg (by simp)] at hgo
  refine gor hL ?_; (repeat (clear hL; intro t hL; refine gor hL ?_))
  refine po_c0 (C49 (byteAt s i)) ?_
  refine gor hL ?_; (repeat (clear hL; intro t hL; refine gor hL ?_))
  cases hd : digit (byteAt s i) with
  | true =>
    rw [hd, if_pos rfl] at hgo
    have hP : digit (byteAt s i) = true := hd
    refine gor hL ?_; (repeat (clear hL; intro t hL; refine gor hL ?_))
    refine pblock (pupA (s.size - i) (fun k u t => u = put (put (put (put (put (fun _ => .undef) (some 8) (.d (.int .u8 (byteAt s i)))) (some 7) (i64 i)) (some 5) a) (some 0) (.d (.str s))) (some 6) (i64 (i + k : Nat)) ∧ Lay st [.vec a (out.map LTok.row) 3] t ∧ ∀ j, j < k → digit (byteAt s (i + j)) = true) ⟨(by first | exact trimA | simp +decide only [pvc, pvi, pvt]), hL, fun j h => by omega⟩ ?_)
    clear hL
    rintro k u t hk ⟨rfl, hL, hI⟩
    have fin : spanB digit s i = i + k → 1 ≤ k := fun h => by have := spanB_pos hlt hP; omega
    refine gor hL ?_; (repeat (clear hL; intro t hL; refine gor hL ?_))
    by_cases hik : i + k < s.size
    rotate_left
    · have hsp : spanB digit s i = i + k := spanB_to hI (by omega) (.inl (by omega))
      have hk1 := fin hsp
      rw [hsp] at hgo
      refine gnm ?_; rw [show decide (((i + k : Nat) : Int) < (s.size : Int)) = false from decide_eq_false (by omega)]
      refine gor hL ?_; (repeat (clear hL; intro t hL; refine gor hL ?_))
      have esub : IntKind.i64.wrap (((i + k : Nat) : Int) - (i : Int)) = (k : Int) := (IntWalk.i64_in _ (by omega)).trans (by omega)
      rw [show i + k - i = k by omega] at hgo
      by_cases hbad : k > 10 ∨ (byteAt s i = 48 ∧ k > 1)
      · rw [if_pos hbad] at hgo
        subst hgo
        refine gnm ?_; rw [esub]
        by_cases hk10 : k > 10
        · refine gnm ?_; rw [show decide ((k : Int) > 10) = true from decide_eq_true (by omega)]
          refine gor hL ?_; (repeat (clear hL; intro t hL; refine gor hL ?_))
          rw [← hQ]
          exact pfin_weak (u := .tup [.full [], .d (.int .i64 (i : Int)), .d (.int .i64 22)]) rfl rfl hL.le
        · obtain ⟨h48, hkk⟩ := hbad.resolve_left hk10
          refine gnm ?_; rw [show decide ((k : Int) > 10) = false from decide_eq_false (by omega)]
          refine gor hL ?_; (repeat (clear hL; intro t hL; refine gor hL ?_))
          refine gnm ?_; rw [show (byteAt s i == 48) = true by simpa using h48]
          refine gor hL ?_; (repeat (clear hL; intro t hL; refine gor hL ?_))
          refine gnm ?_; rw [show decide ((k : Int) > 1) = true from decide_eq_true (by omega)]
          refine gor hL ?_; (repeat (clear hL; intro t hL; refine gor hL ?_))
          rw [← hQ]
          exact pfin_weak (u := .tup [.full [], .d (.int .i64 (i : Int)), .d (.int .i64 22)]) rfl rfl hL.le
      rw [if_neg hbad] at hgo
      refine gnm ?_; rw [esub, show decide ((k : Int) > 10) = false from decide_eq_false (by omega)]
      refine gor hL ?_; (repeat (clear hL; intro t hL; refine gor hL ?_))
      cases h48 : byteAt s i == 48 with
      | false =>
        refine gor hL ?_; (repeat (clear hL; intro t hL; refine gor hL ?_))
        refine po rfl (slc_str (i := (i : Int)) (j := ((i + k : Nat) : Int)) rfl rfl rfl (by omega) (by omega) (by omega)) ?_
        refine gor hL ?_; (repeat (clear hL; intro t hL; refine gor hL ?_))
        refine po_appA hL hr3 ?_ ?_; (· simp; omega); clear hL; intro a' t f' hL; obtain ⟨f'_r, f'_w, f'_w1, f'_c, f'_s, f'_d⟩ := id f'
        rw [show out.map LTok.row ++ [[Dat.int .u8 2, .int .i64 (i : Int), .str (s.extract (i : Int).toNat ((i + k : Nat) : Int).toNat)]] = (out ++ [LTok.mk 2 i (s.extract i (i + k))]).map LTok.row by rw [List.map_append, Int.toNat_natCast, Int.toNat_natCast]; rfl] at hL
        refine gor hL ?_; (repeat (clear hL; intro t hL; refine gor hL ?_))
        exact ⟨g, by omega, i + k, a', (out ++ [LTok.mk 2 i (s.extract i (i + k))]), by omega, by omega, by (try simp); omega, by first | rfl | simp +decide only [pvc, pvi, pvt], hL.pk, hgo⟩
      | true =>
        have h48' : byteAt s i = 48 := by simpa using h48
        refine gor hL ?_; (repeat (clear hL; intro t hL; refine gor hL ?_))
        refine gnm ?_; rw [show decide ((k : Int) > 1) = false from decide_eq_false (by omega)]
        refine gor hL ?_; (repeat (clear hL; intro t hL; refine gor hL ?_))
        refine po rfl (slc_str (i := (i : Int)) (j := ((i + k : Nat) : Int)) rfl rfl rfl (by omega) (by omega) (by omega)) ?_
        refine gor hL ?_; (repeat (clear hL; intro t hL; refine gor hL ?_))
        refine po_appA hL hr3 ?_ ?_; (· simp; omega); clear hL; intro a' t f' hL; obtain ⟨f'_r, f'_w, f'_w1, f'_c, f'_s, f'_d⟩ := id f'
        rw [show out.map LTok.row ++ [[Dat.int .u8 2, .int .i64 (i : Int), .str (s.extract (i : Int).toNat ((i + k : Nat) : Int).toNat)]] = (out ++ [LTok.mk 2 i (s.extract i (i + k))]).map LTok.row by rw [List.map_append, Int.toNat_natCast, Int.toNat_natCast]; rfl] at hL
        refine gor hL ?_; (repeat (clear hL; intro t hL; refine gor hL ?_))
        exact ⟨g, by omega, i + k, a', (out ++ [LTok.mk 2 i (s.extract i (i + k))]), by omega, by omega, by (try simp); omega, by first | rfl | simp +decide only [pvc, pvi, pvt], hL.pk, hgo⟩
    · refine gnm ?_; rw [show decide (((i + k : Nat) : Int) < (s.size : Int)) = true from decide_eq_true (by omega)]
      refine gor hL ?_; (repeat (clear hL; intro t hL; refine gor hL ?_))
      have ek : IntKind.i64.wrap (((i + k : Nat) : Int) + 1) = ((i + (k + 1) : Nat) : Int) := (IntWalk.i64_in _ (by omega)).trans (by omega)
      have hn : digit (byteAt s (i + k)) = true → ∀ j, j < k + 1 → digit (byteAt s (i + j)) = true := fun h j hj => by
        rcases Nat.lt_succ_iff_lt_or_eq.1 hj with hj | rfl
        · exact hI j hj
        · exact h
      have hx : digit (byteAt s (i + k)) = false → spanB digit s i = i + k := fun h => spanB_to hI (by omega) (.inr h)
      refine po_c0 (C49 (byteAt s (i + k))) ?_
      refine gor hL ?_; (repeat (clear hL; intro t hL; refine gor hL ?_))
      cases hc : digit (byteAt s (i + k)) with
      | true =>
        refine gor hL ?_; (repeat (clear hL; intro t hL; refine gor hL ?_))
        refine pblock ?_
        refine gor hL ?_; (repeat (clear hL; intro t hL; refine gor hL ?_))
        refine gnm ?_; rw [ek]
        exact ⟨by omega, by first | rfl | simp +decide only [pvc, pvi, pvt], hL.pk, hn (hc)⟩
      | false =>
        have hsp := hx (hc)
        have hk1 := fin hsp
        rw [hsp] at hgo
        refine gor hL ?_; (repeat (clear hL; intro t hL; refine gor hL ?_))
        have esub : IntKind.i64.wrap (((i + k : Nat) : Int) - (i : Int)) = (k : Int) := (IntWalk.i64_in _ (by omega)).trans (by omega)
        rw [show i + k - i = k by omega] at hgo
        by_cases hbad : k > 10 ∨ (byteAt s i = 48 ∧ k > 1)
        · rw [if_pos hbad] at hgo
          subst hgo
          refine gnm ?_; rw [esub]
          by_cases hk10 : k > 10
          · refine gnm ?_; rw [show decide ((k : Int) > 10) = true from decide_eq_true (by omega)]
            refine gor hL ?_; (repeat (clear hL; intro t hL; refine gor hL ?_))
            rw [← hQ]
            exact pfin_weak (u := .tup [.full [], .d (.int .i64 (i : Int)), .d (.int .i64 22)]) rfl rfl hL.le
          · obtain ⟨h48, hkk⟩ := hbad.resolve_left hk10
            refine gnm ?_; rw [show decide ((k : Int) > 10) = false from decide_eq_false (by omega)]
            refine gor hL ?_; (repeat (clear hL; intro t hL; refine gor hL ?_))
            refine gnm ?_; rw [show (byteAt s i == 48) = true by simpa using h48]
            refine gor hL ?_; (repeat (clear hL; intro t hL; refine gor hL ?_))
            refine gnm ?_; rw [show decide ((k : Int) > 1) = true from decide_eq_true (by omega)]
            refine gor hL ?_; (repeat (clear hL; intro t hL; refine gor hL ?_))
            rw [← hQ]
            exact pfin_weak (u := .tup [.full [], .d (.int .i64 (i : Int)), .d (.int .i64 22)]) rfl rfl hL.le
        rw [if_neg hbad] at hgo
        refine gnm ?_; rw [esub, show decide ((k : Int) > 10) = false from decide_eq_false (by omega)]
        refine gor hL ?_; (repeat (clear hL; intro t hL; refine gor hL ?_))
        cases h48 : byteAt s i == 48 with
        | false =>
          refine gor hL ?_; (repeat (clear hL; intro t hL; refine gor hL ?_))
          refine po rfl (slc_str (i := (i : Int)) (j := ((i + k : Nat) : Int)) rfl rfl rfl (by omega) (by omega) (by omega)) ?_
          refine gor hL ?_; (repeat (clear hL; intro t hL; refine gor hL ?_))
          refine po_appA hL hr3 ?_ ?_; (· simp; omega); clear hL; intro a' t f' hL; obtain ⟨f'_r, f'_w, f'_w1, f'_c, f'_s, f'_d⟩ := id f'
          rw [show out.map LTok.row ++ [[Dat.int .u8 2, .int .i64 (i : Int), .str (s.extract (i : Int).toNat ((i + k : Nat) : Int).toNat)]] = (out ++ [LTok.mk 2 i (s.extract i (i + k))]).map LTok.row by rw [List.map_append, Int.toNat_natCast, Int.toNat_natCast]; rfl] at hL
          refine gor hL ?_; (repeat (clear hL; intro t hL; refine gor hL ?_))
          exact ⟨g, by omega, i + k, a', (out ++ [LTok.mk 2 i (s.extract i (i + k))]), by omega, by omega, by (try simp); omega, by first | rfl | simp +decide only [pvc, pvi, pvt], hL.pk, hgo⟩
        | true =>
          have h48' : byteAt s i = 48 := by simpa using h48
          refine gor hL ?_; (repeat (clear hL; intro t hL; refine gor hL ?_))
          refine gnm ?_; rw [show decide ((k : Int) > 1) = false from decide_eq_false (by omega)]
          refine gor hL ?_; (repeat (clear hL; intro t hL; refine gor hL ?_))
          refine po rfl (slc_str (i := (i : Int)) (j := ((i + k : Nat) : Int)) rfl rfl rfl (by omega) (by omega) (by omega)) ?_
          refine gor hL ?_; (repeat (clear hL; intro t hL; refine gor hL ?_))
          refine po_appA hL hr3 ?_ ?_; (· simp; omega); clear hL; intro a' t f' hL; obtain ⟨f'_r, f'_w, f'_w1, f'_c, f'_s, f'_d⟩ := id f'
          rw [show out.map LTok.row ++ [[Dat.int .u8 2, .int .i64 (i : Int), .str (s.extract (i : Int).toNat ((i + k : Nat) : Int).toNat)]] = (out ++ [LTok.mk 2 i (s.extract i (i + k))]).map LTok.row by rw [List.map_append, Int.toNat_natCast, Int.toNat_natCast]; rfl] at hL
          refine gor hL ?_; (repeat (clear hL; intro t hL; refine gor hL ?_))
          exact ⟨g, by omega, i + k, a', (out ++ [LTok.mk 2 i (s.extract i (i + k))]), by omega, by omega, by (try simp); omega, by first | rfl | simp +decide only [pvc, pvi, pvt], hL.pk, hgo⟩
  | false =>
  rw [hd, if_neg (by simp)] at hgo
  refine gor hL ?_; (repeat (clear hL; intro t hL; refine gor hL ?_))
  refine po_c0 (C50 (byteAt s i)) ?_
  refine gor hL ?_; (repeat (clear hL; intro t hL; refine gor hL ?_))
  cases hs : signB (byteAt s i) with
  | true =>
    rw [hs, if_pos rfl] at hgo
    refine gor hL ?_; (repeat (clear hL; intro t hL; refine gor hL ?_))
    refine gnm ?_; rw [ei]
    refine gor hL ?_; (repeat (clear hL; intro t hL; refine gor hL ?_))
    refine po rfl (slc_str (i := (i : Int)) (j := ((i + 1 : Nat) : Int)) rfl rfl rfl (by omega) (by omega) (by omega)) ?_
    refine gor hL ?_; (repeat (clear hL; intro t hL; refine gor hL ?_))
    refine po_appA hL hr3 ?_ ?_; (· simp; omega); clear hL; intro a' t f' hL; obtain ⟨f'_r, f'_w, f'_w1, f'_c, f'_s, f'_d⟩ := id f'
    rw [show out.map LTok.row ++ [[Dat.int .u8 3, .int .i64 (i : Int), .str (s.extract (i : Int).toNat ((i + 1 : Nat) : Int).toNat)]] = (out ++ [LTok.mk 3 i (s.extract i (i + 1))]).map LTok.row by rw [List.map_append, Int.toNat_natCast, Int.toNat_natCast]; rfl] at hL
    refine gor hL ?_; (repeat (clear hL; intro t hL; refine gor hL ?_))
    exact ⟨g, by omega, i + 1, a', (out ++ [LTok.mk 3 i (s.extract i (i + 1))]), by omega, by omega, by (try simp); omega, by first | rfl | simp +decide only [pvc, pvi, pvt], hL.pk, hgo⟩
  | false =>
    rw [hs, if_neg (by simp)] at hgo
    subst hgo
    refine gor hL ?_; (repeat (clear hL; intro t hL; refine gor hL ?_))
    rw [← hQ]
    exact pfin_weak (u := .tup [.full [], .d (.int .i64 (i : Int)), .d (.int .i64 13)]) rfl rfl hL.le
end Go.Pv
