/- Functions of the program, by value. No condition. -/
import Derived.Test.YtmkfohiocklkoaaDoorKindA
namespace Go.Pv
open Go.Proofs
set_option maxRecDepth 100000
set_option maxHeartbeats 4000000

/-- prompter/kind.number -/
abbrev c25_0 : PCode :=
 (.seq (.region [⟨(.some 3), (.mov (.t 0)), .none⟩,
   ⟨(.some 4), (.bin .geq (.t 3) (.c (.d (.int .i64 0)))), .none⟩,
   ⟨(.some 5), (.mov (.t 4)), .none⟩,
   ⟨(.some 6), (.mov (.t 0)), (.some (5, .true))⟩,
   ⟨(.some 7), (.bin .leq (.t 6) (.c (.d (.int .i64 65535)))), (.some (5, .true))⟩,
   ⟨(.some 8), (.pick (.t 5) (.t 7) (.c (.d (.bool .false)))), .none⟩,
   ⟨(.some 2), (.mov (.t 8)), .none⟩])
 .ret)
def c25 : PFun := ⟨
 (.seq (.region [⟨(.some 2), (.mov (.c (.d (.bool .false)))), .none⟩])
 c25_0),
 1, 9, [(.tmp 2)]⟩

/-- (prompter/kind.Table).procs -/
abbrev c30_7 : PCode :=
 (.seq (.region [⟨(.some 29), (.mov (.t 10)), .none⟩,
   ⟨(.some 6), (.mov (.t 29)), .none⟩])
 .ret)
abbrev c30_6 : PCode :=
 (.cond (.t 28)
  c30_7
  .skip)
abbrev c30_5 : PCode :=
 (.keep [1, 2, 3, 7, 9, 10, 17, 18, 19] (.seq (.region [⟨(.some 27), (.mov (.t 10)), .none⟩,
   ⟨(.some 28), (.bin .neq (.t 27) (.c (.d (.int .i64 0)))), .none⟩])
 c30_6))
abbrev c30_10 : PCode :=
 (.seq (.region [⟨(.some 6), (.mov (.c (.d (.int .i64 2)))), .none⟩])
 .ret)
abbrev c30_9 : PCode :=
 (.cond (.t 48)
  c30_10
  .skip)
abbrev c30_13 : PCode :=
 (.seq (.region [⟨(.some 6), (.mov (.c (.d (.int .i64 9)))), .none⟩])
 .ret)
abbrev c30_12 : PCode :=
 (.cond (.t 52)
  c30_13
  .skip)
abbrev c30_21 : PCode :=
 (.seq (.region [⟨(.some 73), (.mov (.t 13)), .none⟩,
   ⟨(.some 6), (.mov (.t 73)), .none⟩])
 .ret)
abbrev c30_20 : PCode :=
 (.cond (.t 72)
  c30_21
  .skip)
abbrev c30_19 : PCode :=
 (.keep [1, 2, 3, 7, 12, 13, 17, 18, 19, 62, 63, 64] (.seq (.region [⟨(.some 71), (.mov (.t 13)), .none⟩,
   ⟨(.some 72), (.bin .neq (.t 71) (.c (.d (.int .i64 0)))), .none⟩])
 c30_20))
abbrev c30_25 : PCode :=
 (.seq (.region [⟨(.some 82), (.mov (.t 15)), .none⟩,
   ⟨(.some 6), (.mov (.t 82)), .none⟩])
 .ret)
abbrev c30_24 : PCode :=
 (.cond (.t 81)
  c30_25
  .skip)
abbrev c30_23 : PCode :=
 (.keep [1, 2, 3, 7, 15, 17, 18, 19, 62, 63, 64] (.seq (.region [⟨(.some 80), (.mov (.t 15)), .none⟩,
   ⟨(.some 81), (.bin .neq (.t 80) (.c (.d (.int .i64 0)))), .none⟩])
 c30_24))
abbrev c30_22 : PCode :=
 (.seq (.region [⟨(.some 75), (.load .true 6 (.t 3) .false), .none⟩,
   ⟨(.some 76), (.load .true 4 (.t 12) .false), .none⟩,
   ⟨(.some 77), (.call0 16 [(.t 75), (.t 76)]), .none⟩,
   ⟨(.some 74), (.mov (.t 77)), .none⟩,
   ⟨(.some 78), (.ext (.t 74) 0), .none⟩,
   ⟨(.some 79), (.ext (.t 74) 1), .none⟩,
   ⟨(.some 14), (.alloc [(.d (.int .u8 0)), (.d (.int .i64 0)), (.full []), (.full [])]), .none⟩,
   ⟨.none, (.store 4 (.t 14) (.t 78)), .none⟩,
   ⟨(.some 15), (.mov (.t 79)), .none⟩])
 c30_23)
abbrev c30_18 : PCode :=
 (.keep [1, 2, 3, 7, 12, 17, 18, 19, 62, 63, 64] (.seq (.seq (.region [⟨(.some 68), (.load .true 4 (.t 12) .false), .none⟩,
   ⟨(.some 69), (.mov (.t 2)), .none⟩,
   ⟨(.some 70), (.call0 28 [(.t 68), (.c (.d (.int .i64 5))), (.t 69)]), .none⟩,
   ⟨(.some 13), (.mov (.t 70)), .none⟩])
 c30_19)
 c30_22))
abbrev c30_17 : PCode :=
 (.block 3 (.seq (.region [⟨(.some 66), (.iaddr 4 (.t 62) (.t 64)), .none⟩,
   ⟨(.some 67), (.load .true 4 (.t 66) .false), .none⟩,
   ⟨(.some 12), (.alloc [(.d (.int .u8 0)), (.d (.int .i64 0)), (.full []), (.full [])]), .none⟩,
   ⟨.none, (.store 4 (.t 12) (.t 67)), .none⟩])
 c30_18))
abbrev c30_16 : PCode :=
 (.keep [1, 2, 3, 7, 17, 18, 19, 62, 63, 64] (.block 2 (.loop (.some [1, 2, 3, 7, 17, 18, 19, 62, 63, 64]) (.seq (.region [⟨(.some 65), (.bin .lss (.t 64) (.t 63)), .none⟩])
 (.seq (.cond (.t 65)
  .skip
  (.exit 2))
 (.seq c30_17
 (.region [⟨(.some 83), (.bin .add (.t 64) (.c (.d (.int .i64 1)))), .none⟩,
   ⟨(.some 64), (.mov (.t 83)), .none⟩])))))))
abbrev c30_15 : PCode :=
 (.keep [1, 2, 3, 7, 9, 17, 18, 19] (.seq (.region [⟨(.some 58), (.faddr 2 (.t 9)), .none⟩,
   ⟨(.some 59), (.load .true 4 (.t 58) .false), .none⟩,
   ⟨(.some 60), (.faddr 6 (.t 9)), .none⟩,
   ⟨(.some 61), (.load .true 4 (.t 60) .false), .none⟩,
   ⟨(.some 62), (.bsl 4 [(.t 59), (.t 61)]), .none⟩,
   ⟨(.some 63), (.len (.t 62)), .none⟩,
   ⟨(.some 64), (.mov (.c (.d (.int .i64 0)))), .none⟩])
 c30_16))
abbrev c30_14 : PCode :=
 (.keep [1, 2, 3, 7, 9, 17, 18, 19] (.seq (.region [⟨(.some 53), (.mov (.t 7)), .none⟩,
   ⟨(.some 54), (.faddr 1 (.t 9)), .none⟩,
   ⟨(.some 55), (.load .false 1 (.t 54) .false), .none⟩,
   ⟨(.some 56), (.bsl 1 [(.t 55)]), .none⟩,
   ⟨(.some 57), (.app 1 8 (.t 53) (.t 56)), .none⟩,
   ⟨(.some 7), (.mov (.t 57)), .none⟩])
 c30_15))
abbrev c30_11 : PCode :=
 (.keep [1, 2, 3, 7, 9, 17, 18, 19] (.seq (.seq (.region [⟨(.some 49), (.mov (.t 7)), .none⟩,
   ⟨(.some 50), (.faddr 1 (.t 9)), .none⟩,
   ⟨(.some 51), (.load .false 1 (.t 50) .false), .none⟩,
   ⟨(.some 52), (.call0 29 [(.t 49), (.t 51)]), .none⟩])
 c30_12)
 c30_14))
abbrev c30_8 : PCode :=
 (.seq (.seq (.region [⟨(.some 30), (.faddr 1 (.t 9)), .none⟩,
   ⟨(.some 31), (.load .false 1 (.t 30) .false), .none⟩,
   ⟨(.some 32), (.call0 25 [(.t 31)]), .none⟩,
   ⟨(.some 33), (.not (.t 32)), .none⟩,
   ⟨(.some 34), (.mov (.t 33)), .none⟩,
   ⟨(.some 35), (.faddr 11 (.t 9)), (.some (34, .false))⟩,
   ⟨(.some 36), (.load .false 1 (.t 35) .false), (.some (34, .false))⟩,
   ⟨(.some 37), (.bin .lss (.t 36) (.c (.d (.int .i64 1)))), (.some (34, .false))⟩,
   ⟨(.some 38), (.pick (.t 34) (.c (.d (.bool .true))) (.t 37)), .none⟩,
   ⟨(.some 39), (.mov (.t 38)), .none⟩,
   ⟨(.some 40), (.faddr 11 (.t 9)), (.some (39, .false))⟩,
   ⟨(.some 41), (.load .false 1 (.t 40) .false), (.some (39, .false))⟩,
   ⟨(.some 42), (.bin .gtr (.t 41) (.c (.d (.int .i64 1000)))), (.some (39, .false))⟩,
   ⟨(.some 43), (.pick (.t 39) (.c (.d (.bool .true))) (.t 42)), .none⟩,
   ⟨(.some 44), (.mov (.t 43)), .none⟩,
   ⟨(.some 45), (.faddr 10 (.t 9)), (.some (44, .false))⟩,
   ⟨(.some 46), (.load .false 1 (.t 45) .false), (.some (44, .false))⟩,
   ⟨(.some 47), (.bin .geq (.t 46) (.c (.d (.int .u8 3)))), (.some (44, .false))⟩,
   ⟨(.some 48), (.pick (.t 44) (.c (.d (.bool .true))) (.t 47)), .none⟩])
 c30_9)
 c30_11)
abbrev c30_4 : PCode :=
 (.keep [1, 2, 3, 7, 9, 17, 18, 19] (.seq (.seq (.region [⟨(.some 23), (.mov (.t 1)), .none⟩,
   ⟨(.some 24), (.faddr 0 (.t 9)), .none⟩,
   ⟨(.some 25), (.load .false 1 (.t 24) .false), .none⟩,
   ⟨(.some 26), (.callv0 (.t 23) [(.t 25)]), .none⟩,
   ⟨(.some 10), (.mov (.t 26)), .none⟩])
 c30_5)
 c30_8))
abbrev c30_3 : PCode :=
 (.block 1 (.seq (.region [⟨(.some 21), (.iaddr 12 (.t 17) (.t 19)), .none⟩,
   ⟨(.some 22), (.load .true 12 (.t 21) .false), .none⟩,
   ⟨(.some 9), (.alloc [(.d (.str (bs []))), (.d (.int .i64 0)), (.d (.int .u8 0)), (.d (.int .i64 0)), (.full []), (.full []), (.d (.int .u8 0)), (.d (.int .i64 0)), (.full []), (.full []), (.d (.int .u8 0)), (.d (.int .i64 0))]), .none⟩,
   ⟨.none, (.store 12 (.t 9) (.t 22)), .none⟩])
 c30_4))
abbrev c30_2 : PCode :=
 (.keep [1, 2, 3, 7, 17, 18, 19] (.block 0 (.loop (.some [1, 2, 3, 7, 17, 18, 19]) (.seq (.region [⟨(.some 20), (.bin .lss (.t 19) (.t 18)), .none⟩])
 (.seq (.cond (.t 20)
  .skip
  (.exit 0))
 (.seq c30_3
 (.region [⟨(.some 84), (.bin .add (.t 19) (.c (.d (.int .i64 1)))), .none⟩,
   ⟨(.some 19), (.mov (.t 84)), .none⟩])))))))
abbrev c30_26 : PCode :=
 (.seq (.region [⟨(.some 6), (.mov (.c (.d (.int .i64 0)))), .none⟩])
 .ret)
abbrev c30_1 : PCode :=
 (.seq (.seq (.region [⟨(.some 16), (.faddr 5 (.t 3)), .none⟩,
   ⟨(.some 17), (.load .false 1 (.t 16) .false), .none⟩,
   ⟨(.some 18), (.len (.t 17)), .none⟩,
   ⟨(.some 19), (.mov (.c (.d (.int .i64 0)))), .none⟩])
 c30_2)
 c30_26)
abbrev c30_0 : PCode :=
 (.seq (.region [⟨(.some 7), (.mov (.c (.full []))), .none⟩])
 c30_1)
def c30 : PFun := ⟨
 (.seq (.region [⟨(.some 3), (.box 6 (.t 0)), .none⟩,
   ⟨(.some 6), (.mov (.c (.d (.int .i64 0)))), .none⟩])
 c30_0),
 3, 85, [(.tmp 6)]⟩

/-- (prompter/kind.Table).Check -/
abbrev c12_2 : PCode :=
 (.seq (.region [⟨(.some 2), (.mov (.c (.d (.int .i64 8)))), .none⟩])
 .ret)
abbrev c12_1 : PCode :=
 (.cond (.t 17)
  c12_2
  .skip)
abbrev c12_5 : PCode :=
 (.seq (.region [⟨(.some 2), (.mov (.c (.d (.int .i64 2)))), .none⟩])
 .ret)
abbrev c12_4 : PCode :=
 (.cond (.t 27)
  c12_5
  .skip)
abbrev c12_8 : PCode :=
 (.seq (.region [⟨(.some 2), (.mov (.c (.d (.int .i64 7)))), .none⟩])
 .ret)
abbrev c12_7 : PCode :=
 (.cond (.t 43)
  c12_8
  .skip)
abbrev c12_17 : PCode :=
 (.seq (.region [⟨(.some 58), (.mov (.t 8)), .none⟩,
   ⟨(.some 2), (.mov (.t 58)), .none⟩])
 .ret)
abbrev c12_16 : PCode :=
 (.cond (.t 57)
  c12_17
  .skip)
abbrev c12_15 : PCode :=
 (.keep [1, 3, 5, 7, 8, 46, 47, 48] (.seq (.region [⟨(.some 56), (.mov (.t 8)), .none⟩,
   ⟨(.some 57), (.bin .neq (.t 56) (.c (.d (.int .i64 0)))), .none⟩])
 c12_16))
abbrev c12_21 : PCode :=
 (.seq (.region [⟨(.some 65), (.mov (.t 9)), .none⟩,
   ⟨(.some 2), (.mov (.t 65)), .none⟩])
 .ret)
abbrev c12_20 : PCode :=
 (.cond (.t 64)
  c12_21
  .skip)
abbrev c12_19 : PCode :=
 (.keep [1, 3, 5, 7, 9, 46, 47, 48] (.seq (.region [⟨(.some 63), (.mov (.t 9)), .none⟩,
   ⟨(.some 64), (.bin .neq (.t 63) (.c (.d (.int .i64 0)))), .none⟩])
 c12_20))
abbrev c12_22 : PCode :=
 (.region [⟨(.some 66), (.mov (.t 3)), .none⟩,
   ⟨(.some 67), (.faddr 0 (.t 7)), .none⟩,
   ⟨(.some 68), (.load .false 1 (.t 67) .false), .none⟩,
   ⟨(.some 69), (.bsl 1 [(.t 68)]), .none⟩,
   ⟨(.some 70), (.app 1 16 (.t 66) (.t 69)), .none⟩,
   ⟨(.some 3), (.mov (.t 70)), .none⟩])
abbrev c12_18 : PCode :=
 (.seq (.seq (.region [⟨(.some 59), (.faddr 1 (.t 7)), .none⟩,
   ⟨(.some 60), (.load .true 4 (.t 59) .false), .none⟩,
   ⟨(.some 61), (.mov (.t 3)), .none⟩,
   ⟨(.some 62), (.call0 28 [(.t 60), (.c (.d (.int .i64 5))), (.t 61)]), .none⟩,
   ⟨(.some 9), (.mov (.t 62)), .none⟩])
 c12_19)
 c12_22)
abbrev c12_14 : PCode :=
 (.keep [1, 3, 5, 7, 46, 47, 48] (.seq (.seq (.region [⟨(.some 52), (.mov (.t 5)), .none⟩,
   ⟨(.some 53), (.faddr 0 (.t 7)), .none⟩,
   ⟨(.some 54), (.load .false 1 (.t 53) .false), .none⟩,
   ⟨(.some 55), (.callv0 (.t 52) [(.t 54)]), .none⟩,
   ⟨(.some 8), (.mov (.t 55)), .none⟩])
 c12_15)
 c12_18))
abbrev c12_13 : PCode :=
 (.block 1 (.seq (.region [⟨(.some 50), (.iaddr 5 (.t 46) (.t 48)), .none⟩,
   ⟨(.some 51), (.load .true 5 (.t 50) .false), .none⟩,
   ⟨(.some 7), (.alloc [(.d (.str (bs []))), (.d (.int .u8 0)), (.d (.int .i64 0)), (.full []), (.full [])]), .none⟩,
   ⟨.none, (.store 5 (.t 7) (.t 51)), .none⟩])
 c12_14))
abbrev c12_12 : PCode :=
 (.keep [1, 3, 5, 46, 47, 48] (.block 0 (.loop (.some [1, 3, 5, 46, 47, 48]) (.seq (.region [⟨(.some 49), (.bin .lss (.t 48) (.t 47)), .none⟩])
 (.seq (.cond (.t 49)
  .skip
  (.exit 0))
 (.seq c12_13
 (.region [⟨(.some 71), (.bin .add (.t 48) (.c (.d (.int .i64 1)))), .none⟩,
   ⟨(.some 48), (.mov (.t 71)), .none⟩])))))))
abbrev c12_30 : PCode :=
 (.seq (.region [⟨(.some 85), (.mov (.t 13)), .none⟩,
   ⟨(.some 2), (.mov (.t 85)), .none⟩])
 .ret)
abbrev c12_29 : PCode :=
 (.cond (.t 84)
  c12_30
  .skip)
abbrev c12_28 : PCode :=
 (.keep [1, 3, 5, 10, 12, 13, 73, 74, 75] (.seq (.region [⟨(.some 83), (.mov (.t 13)), .none⟩,
   ⟨(.some 84), (.bin .neq (.t 83) (.c (.d (.int .i64 0)))), .none⟩])
 c12_29))
abbrev c12_33 : PCode :=
 (.seq (.region [⟨(.some 2), (.mov (.c (.d (.int .i64 2)))), .none⟩])
 .ret)
abbrev c12_32 : PCode :=
 (.cond (.t 89)
  c12_33
  .skip)
abbrev c12_36 : PCode :=
 (.seq (.region [⟨(.some 2), (.mov (.c (.d (.int .i64 9)))), .none⟩])
 .ret)
abbrev c12_35 : PCode :=
 (.cond (.t 93)
  c12_36
  .skip)
abbrev c12_37 : PCode :=
 (.keep [1, 3, 5, 10, 12, 73, 74, 75] (.region [⟨(.some 94), (.mov (.t 10)), .none⟩,
   ⟨(.some 95), (.faddr 1 (.t 12)), .none⟩,
   ⟨(.some 96), (.load .false 1 (.t 95) .false), .none⟩,
   ⟨(.some 97), (.bsl 1 [(.t 96)]), .none⟩,
   ⟨(.some 98), (.app 1 8 (.t 94) (.t 97)), .none⟩,
   ⟨(.some 10), (.mov (.t 98)), .none⟩]))
abbrev c12_34 : PCode :=
 (.keep [1, 3, 5, 10, 12, 73, 74, 75] (.seq (.seq (.region [⟨(.some 90), (.mov (.t 10)), .none⟩,
   ⟨(.some 91), (.faddr 1 (.t 12)), .none⟩,
   ⟨(.some 92), (.load .false 1 (.t 91) .false), .none⟩,
   ⟨(.some 93), (.call0 29 [(.t 90), (.t 92)]), .none⟩])
 c12_35)
 c12_37))
abbrev c12_31 : PCode :=
 (.seq (.seq (.region [⟨(.some 86), (.faddr 1 (.t 12)), .none⟩,
   ⟨(.some 87), (.load .false 1 (.t 86) .false), .none⟩,
   ⟨(.some 88), (.call0 25 [(.t 87)]), .none⟩,
   ⟨(.some 89), (.not (.t 88)), .none⟩])
 c12_32)
 c12_34)
abbrev c12_27 : PCode :=
 (.keep [1, 3, 5, 10, 12, 73, 74, 75] (.seq (.seq (.region [⟨(.some 79), (.mov (.t 5)), .none⟩,
   ⟨(.some 80), (.faddr 0 (.t 12)), .none⟩,
   ⟨(.some 81), (.load .false 1 (.t 80) .false), .none⟩,
   ⟨(.some 82), (.callv0 (.t 79) [(.t 81)]), .none⟩,
   ⟨(.some 13), (.mov (.t 82)), .none⟩])
 c12_28)
 c12_31))
abbrev c12_26 : PCode :=
 (.block 3 (.seq (.region [⟨(.some 77), (.iaddr 2 (.t 73) (.t 75)), .none⟩,
   ⟨(.some 78), (.load .true 2 (.t 77) .false), .none⟩,
   ⟨(.some 12), (.alloc [(.d (.str (bs []))), (.d (.int .i64 0))]), .none⟩,
   ⟨.none, (.store 2 (.t 12) (.t 78)), .none⟩])
 c12_27))
abbrev c12_25 : PCode :=
 (.keep [1, 3, 5, 10, 73, 74, 75] (.block 2 (.loop (.some [1, 3, 5, 10, 73, 74, 75]) (.seq (.region [⟨(.some 76), (.bin .lss (.t 75) (.t 74)), .none⟩])
 (.seq (.cond (.t 76)
  .skip
  (.exit 2))
 (.seq c12_26
 (.region [⟨(.some 99), (.bin .add (.t 75) (.c (.d (.int .i64 1)))), .none⟩,
   ⟨(.some 75), (.mov (.t 99)), .none⟩])))))))
abbrev c12_38 : PCode :=
 (.seq (.region [⟨(.some 100), (.load .true 6 (.t 1) .false), .none⟩,
   ⟨(.some 101), (.mov (.t 5)), .none⟩,
   ⟨(.some 102), (.mov (.t 3)), .none⟩,
   ⟨(.some 103), (.call0 30 [(.t 100), (.t 101), (.t 102)]), .none⟩,
   ⟨(.some 2), (.mov (.t 103)), .none⟩])
 .ret)
abbrev c12_24 : PCode :=
 (.seq (.seq (.region [⟨(.some 72), (.faddr 4 (.t 1)), .none⟩,
   ⟨(.some 73), (.load .false 1 (.t 72) .false), .none⟩,
   ⟨(.some 74), (.len (.t 73)), .none⟩,
   ⟨(.some 75), (.mov (.c (.d (.int .i64 0)))), .none⟩])
 c12_25)
 c12_38)
abbrev c12_23 : PCode :=
 (.seq (.region [⟨(.some 10), (.mov (.c (.full []))), .none⟩])
 c12_24)
abbrev c12_11 : PCode :=
 (.seq (.seq (.region [⟨(.some 45), (.faddr 3 (.t 1)), .none⟩,
   ⟨(.some 46), (.load .false 1 (.t 45) .false), .none⟩,
   ⟨(.some 47), (.len (.t 46)), .none⟩,
   ⟨(.some 48), (.mov (.c (.d (.int .i64 0)))), .none⟩])
 c12_12)
 c12_23)
abbrev c12_10 : PCode :=
 (.seq (.region [⟨(.some 44), (.mkfn 26 [] [(.t 4)]), .none⟩,
   ⟨(.some 5), (.mov (.t 44)), .none⟩])
 c12_11)
abbrev c12_9 : PCode :=
 (.keep [1] (.seq (.region [⟨(.some 3), (.mov (.c (.full []))), .none⟩,
   ⟨(.some 4), (.alloc [(.full [])]), .none⟩])
 c12_10))
abbrev c12_6 : PCode :=
 (.keep [1] (.seq (.seq (.region [⟨(.some 28), (.faddr 3 (.t 1)), .none⟩,
   ⟨(.some 29), (.load .false 1 (.t 28) .false), .none⟩,
   ⟨(.some 30), (.len (.t 29)), .none⟩,
   ⟨(.some 31), (.bin .gtr (.t 30) (.c (.d (.int .i64 16)))), .none⟩,
   ⟨(.some 32), (.mov (.t 31)), .none⟩,
   ⟨(.some 33), (.faddr 4 (.t 1)), (.some (32, .false))⟩,
   ⟨(.some 34), (.load .false 1 (.t 33) .false), (.some (32, .false))⟩,
   ⟨(.some 35), (.len (.t 34)), (.some (32, .false))⟩,
   ⟨(.some 36), (.bin .gtr (.t 35) (.c (.d (.int .i64 16)))), (.some (32, .false))⟩,
   ⟨(.some 37), (.pick (.t 32) (.c (.d (.bool .true))) (.t 36)), .none⟩,
   ⟨(.some 38), (.mov (.t 37)), .none⟩,
   ⟨(.some 39), (.faddr 5 (.t 1)), (.some (38, .false))⟩,
   ⟨(.some 40), (.load .false 1 (.t 39) .false), (.some (38, .false))⟩,
   ⟨(.some 41), (.len (.t 40)), (.some (38, .false))⟩,
   ⟨(.some 42), (.bin .gtr (.t 41) (.c (.d (.int .i64 16)))), (.some (38, .false))⟩,
   ⟨(.some 43), (.pick (.t 38) (.c (.d (.bool .true))) (.t 42)), .none⟩])
 c12_7)
 c12_9))
abbrev c12_3 : PCode :=
 (.keep [1] (.seq (.seq (.region [⟨(.some 18), (.faddr 1 (.t 1)), .none⟩,
   ⟨(.some 19), (.load .false 1 (.t 18) .false), .none⟩,
   ⟨(.some 20), (.call0 25 [(.t 19)]), .none⟩,
   ⟨(.some 21), (.not (.t 20)), .none⟩,
   ⟨(.some 22), (.mov (.t 21)), .none⟩,
   ⟨(.some 23), (.faddr 2 (.t 1)), (.some (22, .false))⟩,
   ⟨(.some 24), (.load .false 1 (.t 23) .false), (.some (22, .false))⟩,
   ⟨(.some 25), (.call0 25 [(.t 24)]), (.some (22, .false))⟩,
   ⟨(.some 26), (.not (.t 25)), (.some (22, .false))⟩,
   ⟨(.some 27), (.pick (.t 22) (.c (.d (.bool .true))) (.t 26)), .none⟩])
 c12_4)
 c12_6))
abbrev c12_0 : PCode :=
 (.seq (.seq (.region [⟨(.some 14), (.faddr 0 (.t 1)), .none⟩,
   ⟨(.some 15), (.load .false 1 (.t 14) .false), .none⟩,
   ⟨(.some 16), (.call0 15 [(.t 15)]), .none⟩,
   ⟨(.some 17), (.not (.t 16)), .none⟩])
 c12_1)
 c12_3)
def c12 : PFun := ⟨
 (.seq (.region [⟨(.some 1), (.box 6 (.t 0)), .none⟩,
   ⟨(.some 2), (.mov (.c (.d (.int .i64 0)))), .none⟩])
 c12_0),
 1, 104, [(.tmp 2)]⟩

/-- prompter/prompterlaw05.Table -/
abbrev c11_9 : PCode :=
 (.region [⟨(.some 42), (.mov (.t 4)), .none⟩,
   ⟨(.some 43), (.mov (.t 7)), .none⟩,
   ⟨(.some 44), (.bsl 1 [(.t 43)]), .none⟩,
   ⟨(.some 45), (.app 1 16 (.t 42) (.t 44)), .none⟩,
   ⟨(.some 4), (.mov (.t 45)), .none⟩])
abbrev c11_8 : PCode :=
 (.keep [1, 2, 3, 4, 6, 7, 20, 21, 22] (.seq (.region [⟨(.some 32), (.faddr 3 (.t 3)), .none⟩,
   ⟨(.some 33), (.load .false 1 (.t 32) .false), .none⟩,
   ⟨(.some 34), (.mov (.t 7)), .none⟩,
   ⟨(.some 35), (.load .true 3 (.t 6) .false), .none⟩,
   ⟨(.some 36), (.mov (.t 4)), .none⟩,
   ⟨(.some 37), (.callp 24 [(.t 35), (.c (.d (.int .i64 3))), (.t 36)]), .none⟩,
   ⟨(.some 38), (.bld [(.d (.str (bs []))), (.d (.int .u8 0)), (.d (.int .i64 0)), (.full []), (.full [])] [(0, (1, (.t 34))), (1, (4, (.t 37)))]), .none⟩,
   ⟨(.some 39), (.bsl 5 [(.t 38)]), .none⟩,
   ⟨(.some 40), (.app 5 80 (.t 33) (.t 39)), .none⟩,
   ⟨(.some 41), (.faddr 3 (.t 3)), .none⟩,
   ⟨.none, (.store 1 (.t 41) (.t 40)), .none⟩])
 c11_9))
abbrev c11_7 : PCode :=
 (.seq (.region [⟨(.some 29), (.mov (.t 5)), .none⟩,
   ⟨(.some 30), (.callp 23 [(.t 29), (.c (.d (.int .u8 3)))]), .none⟩,
   ⟨(.some 31), (.bin .add (.c (.d (.str (bs [84])))) (.t 30)), .none⟩,
   ⟨(.some 7), (.mov (.t 31)), .none⟩])
 c11_8)
abbrev c11_6 : PCode :=
 (.cond (.t 28)
  c11_7
  .skip)
abbrev c11_5 : PCode :=
 (.keep [1, 2, 3, 4, 5, 6, 20, 21, 22] (.seq (.region [⟨(.some 27), (.mov (.t 5)), .none⟩,
   ⟨(.some 28), (.bin .lss (.t 27) (.c (.d (.int .i64 4)))), .none⟩])
 c11_6))
abbrev c11_4 : PCode :=
 (.block 1 (.seq (.region [⟨(.some 24), (.mov (.t 22)), .none⟩,
   ⟨(.some 25), (.iaddr 3 (.t 20) (.t 22)), .none⟩,
   ⟨(.some 26), (.load .true 3 (.t 25) .false), .none⟩,
   ⟨(.some 6), (.alloc [(.d (.int .u8 0)), (.d (.int .u8 0)), (.full [])]), .none⟩,
   ⟨(.some 5), (.mov (.t 24)), .none⟩,
   ⟨.none, (.store 3 (.t 6) (.t 26)), .none⟩])
 c11_5))
abbrev c11_3 : PCode :=
 (.keep [1, 2, 3, 4, 20, 21, 22] (.block 0 (.loop (.some [1, 2, 3, 4, 20, 21, 22]) (.seq (.region [⟨(.some 23), (.bin .lss (.t 22) (.t 21)), .none⟩])
 (.seq (.cond (.t 23)
  .skip
  (.exit 0))
 (.seq c11_4
 (.region [⟨(.some 46), (.bin .add (.t 22) (.c (.d (.int .i64 1)))), .none⟩,
   ⟨(.some 22), (.mov (.t 46)), .none⟩])))))))
abbrev c11_13 : PCode :=
 (.region [⟨(.some 54), (.faddr 4 (.t 3)), .none⟩,
   ⟨(.some 55), (.load .false 1 (.t 54) .false), .none⟩,
   ⟨(.some 56), (.mov (.t 8)), .none⟩,
   ⟨(.some 57), (.callp 23 [(.t 56), (.c (.d (.int .u8 5)))]), .none⟩,
   ⟨(.some 58), (.bin .add (.c (.d (.str (bs [69])))) (.t 57)), .none⟩,
   ⟨(.some 59), (.mov (.t 8)), .none⟩,
   ⟨(.some 60), (.bin .mul (.c (.d (.int .i64 10))) (.t 59)), .none⟩,
   ⟨(.some 61), (.bld [(.d (.str (bs []))), (.d (.int .i64 0))] [(0, (1, (.t 58))), (1, (1, (.t 60)))]), .none⟩,
   ⟨(.some 62), (.bsl 2 [(.t 61)]), .none⟩,
   ⟨(.some 63), (.app 2 24 (.t 55) (.t 62)), .none⟩,
   ⟨(.some 64), (.faddr 4 (.t 3)), .none⟩,
   ⟨.none, (.store 1 (.t 64) (.t 63)), .none⟩])
abbrev c11_12 : PCode :=
 (.block 3 (.seq (.region [⟨(.some 53), (.mov (.t 51)), .none⟩,
   ⟨(.some 8), (.mov (.t 53)), .none⟩])
 c11_13))
abbrev c11_11 : PCode :=
 (.keep [1, 2, 3, 4, 50, 51] (.block 2 (.loop (.some [1, 2, 3, 4, 50, 51]) (.seq (.region [⟨(.some 52), (.bin .lss (.t 51) (.t 50)), .none⟩])
 (.seq (.cond (.t 52)
  .skip
  (.exit 2))
 (.seq c11_12
 (.region [⟨(.some 65), (.bin .add (.t 51) (.c (.d (.int .i64 1)))), .none⟩,
   ⟨(.some 51), (.mov (.t 65)), .none⟩])))))))
abbrev c11_19 : PCode :=
 (.region [⟨(.some 76), (.faddr 5 (.t 3)), .none⟩,
   ⟨(.some 77), (.load .false 1 (.t 76) .false), .none⟩,
   ⟨(.some 78), (.mov (.t 9)), .none⟩,
   ⟨(.some 79), (.callp 23 [(.t 78), (.c (.d (.int .u8 7)))]), .none⟩,
   ⟨(.some 80), (.bin .add (.c (.d (.str (bs [80])))) (.t 79)), .none⟩,
   ⟨(.some 81), (.mov (.t 9)), .none⟩,
   ⟨(.some 82), (.faddr 0 (.t 1)), .none⟩,
   ⟨(.some 83), (.load .false 1 (.t 82) .false), .none⟩,
   ⟨(.some 84), (.bin .rem (.t 83) (.c (.d (.int .u16 9)))), .none⟩,
   ⟨(.some 85), (.cvt .i64 (.t 84)), .none⟩,
   ⟨(.some 86), (.bin .add (.t 81) (.t 85)), .none⟩,
   ⟨(.some 87), (.faddr 0 (.t 10)), .none⟩,
   ⟨(.some 88), (.load .true 3 (.t 87) .false), .none⟩,
   ⟨(.some 89), (.mov (.t 4)), .none⟩,
   ⟨(.some 90), (.callp 24 [(.t 88), (.c (.d (.int .i64 3))), (.t 89)]), .none⟩,
   ⟨(.some 91), (.faddr 3 (.t 10)), .none⟩,
   ⟨(.some 92), (.load .true 3 (.t 91) .false), .none⟩,
   ⟨(.some 93), (.mov (.t 4)), .none⟩,
   ⟨(.some 94), (.callp 24 [(.t 92), (.c (.d (.int .i64 3))), (.t 93)]), .none⟩,
   ⟨(.some 95), (.faddr 6 (.t 10)), .none⟩,
   ⟨(.some 96), (.load .false 1 (.t 95) .false), .none⟩,
   ⟨(.some 97), (.bin .rem (.t 96) (.c (.d (.int .u8 3)))), .none⟩,
   ⟨(.some 98), (.faddr 7 (.t 10)), .none⟩,
   ⟨(.some 99), (.load .false 1 (.t 98) .false), .none⟩,
   ⟨(.some 100), (.bin .rem (.t 99) (.c (.d (.int .u16 1000)))), .none⟩,
   ⟨(.some 101), (.cvt .i64 (.t 100)), .none⟩,
   ⟨(.some 102), (.bin .add (.c (.d (.int .i64 1))) (.t 101)), .none⟩,
   ⟨(.some 103), (.bld [(.d (.str (bs []))), (.d (.int .i64 0)), (.d (.int .u8 0)), (.d (.int .i64 0)), (.full []), (.full []), (.d (.int .u8 0)), (.d (.int .i64 0)), (.full []), (.full []), (.d (.int .u8 0)), (.d (.int .i64 0))] [(0, (1, (.t 80))), (1, (1, (.t 86))), (2, (4, (.t 90))), (6, (4, (.t 94))), (10, (1, (.t 97))), (11, (1, (.t 102)))]), .none⟩,
   ⟨(.some 104), (.bsl 12 [(.t 103)]), .none⟩,
   ⟨(.some 105), (.app 12 168 (.t 77) (.t 104)), .none⟩,
   ⟨(.some 106), (.faddr 5 (.t 3)), .none⟩,
   ⟨.none, (.store 1 (.t 106) (.t 105)), .none⟩])
abbrev c11_18 : PCode :=
 (.cond (.t 75)
  c11_19
  .skip)
abbrev c11_17 : PCode :=
 (.keep [1, 2, 3, 4, 9, 10, 67, 68, 69] (.seq (.region [⟨(.some 74), (.mov (.t 9)), .none⟩,
   ⟨(.some 75), (.bin .lss (.t 74) (.c (.d (.int .i64 4)))), .none⟩])
 c11_18))
abbrev c11_16 : PCode :=
 (.block 5 (.seq (.region [⟨(.some 71), (.mov (.t 69)), .none⟩,
   ⟨(.some 72), (.iaddr 8 (.t 67) (.t 69)), .none⟩,
   ⟨(.some 73), (.load .true 8 (.t 72) .false), .none⟩,
   ⟨(.some 10), (.alloc [(.d (.int .u8 0)), (.d (.int .u8 0)), (.full []), (.d (.int .u8 0)), (.d (.int .u8 0)), (.full []), (.d (.int .u8 0)), (.d (.int .u16 0))]), .none⟩,
   ⟨(.some 9), (.mov (.t 71)), .none⟩,
   ⟨.none, (.store 8 (.t 10) (.t 73)), .none⟩])
 c11_17))
abbrev c11_15 : PCode :=
 (.keep [1, 2, 3, 4, 67, 68, 69] (.block 4 (.loop (.some [1, 2, 3, 4, 67, 68, 69]) (.seq (.region [⟨(.some 70), (.bin .lss (.t 69) (.t 68)), .none⟩])
 (.seq (.cond (.t 70)
  .skip
  (.exit 4))
 (.seq c11_16
 (.region [⟨(.some 107), (.bin .add (.t 69) (.c (.d (.int .i64 1)))), .none⟩,
   ⟨(.some 69), (.mov (.t 107)), .none⟩])))))))
abbrev c11_20 : PCode :=
 (.seq (.region [⟨(.some 108), (.load .true 6 (.t 3) .false), .none⟩,
   ⟨.none, (.store 6 (.t 2) (.t 108)), .none⟩])
 .ret)
abbrev c11_14 : PCode :=
 (.seq (.seq (.region [⟨(.some 66), (.faddr 3 (.t 1)), .none⟩,
   ⟨(.some 67), (.load .false 1 (.t 66) .false), .none⟩,
   ⟨(.some 68), (.len (.t 67)), .none⟩,
   ⟨(.some 69), (.mov (.c (.d (.int .i64 0)))), .none⟩])
 c11_15)
 c11_20)
abbrev c11_10 : PCode :=
 (.seq (.seq (.region [⟨(.some 47), (.faddr 2 (.t 1)), .none⟩,
   ⟨(.some 48), (.load .false 1 (.t 47) .false), .none⟩,
   ⟨(.some 49), (.bin .rem (.t 48) (.c (.d (.int .u8 4)))), .none⟩,
   ⟨(.some 50), (.cvt .i64 (.t 49)), .none⟩,
   ⟨(.some 51), (.mov (.c (.d (.int .i64 0)))), .none⟩])
 c11_11)
 c11_14)
abbrev c11_2 : PCode :=
 (.seq (.seq (.region [⟨(.some 19), (.faddr 1 (.t 1)), .none⟩,
   ⟨(.some 20), (.load .false 1 (.t 19) .false), .none⟩,
   ⟨(.some 21), (.len (.t 20)), .none⟩,
   ⟨(.some 22), (.mov (.c (.d (.int .i64 0)))), .none⟩])
 c11_3)
 c11_10)
abbrev c11_1 : PCode :=
 (.keep [1, 2, 3] (.seq (.region [⟨(.some 4), (.mov (.c (.full []))), .none⟩])
 c11_2))
abbrev c11_0 : PCode :=
 (.seq (.region [⟨(.some 11), (.faddr 0 (.t 1)), .none⟩,
   ⟨(.some 12), (.load .false 1 (.t 11) .false), .none⟩,
   ⟨(.some 13), (.cvt .i64 (.t 12)), .none⟩,
   ⟨(.some 14), (.faddr 0 (.t 1)), .none⟩,
   ⟨(.some 15), (.load .false 1 (.t 14) .false), .none⟩,
   ⟨(.some 16), (.cvt .i64 (.t 15)), .none⟩,
   ⟨(.some 17), (.bin .rem (.t 16) (.c (.d (.int .i64 7)))), .none⟩,
   ⟨(.some 18), (.bld [(.d (.str (bs []))), (.d (.int .i64 0)), (.d (.int .i64 0)), (.full []), (.full []), (.full [])] [(0, (1, (.c (.d (.str (bs [102, 97, 99, 101])))))), (1, (1, (.t 13))), (2, (1, (.t 17)))]), .none⟩,
   ⟨(.some 3), (.alloc [(.d (.str (bs []))), (.d (.int .i64 0)), (.d (.int .i64 0)), (.full []), (.full []), (.full [])]), .none⟩,
   ⟨.none, (.store 6 (.t 3) (.t 18)), .none⟩])
 c11_1)
def c11 : PFun := ⟨
 (.seq (.region [⟨(.some 1), (.box 4 (.t 0)), .none⟩,
   ⟨(.some 2), (.alloc [(.d (.str (bs []))), (.d (.int .i64 0)), (.d (.int .i64 0)), (.full []), (.full []), (.full [])]), .none⟩])
 c11_0),
 1, 109, [(.cell 2 .true 6)]⟩

/-- prompter/prompterlaw05.Awake -/
abbrev c9_0 : PCode :=
 (.seq (.region [⟨(.some 1), (.call0 15 [(.c (.d (.str (bs [115, 101, 113]))))]), .none⟩,
   ⟨(.some 2), (.not (.t 1)), .none⟩,
   ⟨(.some 3), (.mov (.t 2)), .none⟩,
   ⟨(.some 4), (.call0 15 [(.c (.d (.str (bs [115, 101, 113, 117, 101, 108]))))]), (.some (3, .true))⟩,
   ⟨(.some 5), (.pick (.t 3) (.t 4) (.c (.d (.bool .false)))), .none⟩,
   ⟨(.some 6), (.mov (.t 5)), .none⟩,
   ⟨(.some 7), (.bld [(.d (.int .u16 0)), (.full []), (.d (.int .u8 0)), (.full [])] []), (.some (6, .true))⟩,
   ⟨(.some 8), (.call0 11 [(.t 7)]), (.some (6, .true))⟩,
   ⟨(.some 9), (.call0 12 [(.t 8)]), (.some (6, .true))⟩,
   ⟨(.some 10), (.bin .eql (.t 9) (.c (.d (.int .i64 0)))), (.some (6, .true))⟩,
   ⟨(.some 11), (.pick (.t 6) (.t 10) (.c (.d (.bool .false)))), .none⟩,
   ⟨(.some 0), (.mov (.t 11)), .none⟩])
 .ret)
def c9 : PFun := ⟨
 (.seq (.region [⟨(.some 0), (.mov (.c (.d (.bool .false)))), .none⟩])
 c9_0),
 0, 12, [(.tmp 0)]⟩

theorem e25 : entered Tryd.prog 25 = true := by kernel_rfl
theorem k25 : compFun Tryd.prog (fun _ => 0) 25 = some c25.er := by kernel_rfl
theorem e30 : entered Tryd.prog 30 = true := by kernel_rfl
theorem k30 : compFun Tryd.prog (fun _ => 0) 30 = some c30.er := by kernel_rfl
theorem e12 : entered Tryd.prog 12 = true := by kernel_rfl
theorem k12 : compFun Tryd.prog (fun _ => 0) 12 = some c12.er := by kernel_rfl
theorem e11 : entered Tryd.prog 11 = true := by kernel_rfl
theorem k11 : compFun Tryd.prog (fun _ => 1) 11 = some c11.er := by kernel_rfl
theorem e9 : entered Tryd.prog 9 = true := by kernel_rfl
theorem k9 : compFun Tryd.prog (fun _ => 0) 9 = some c9.er := by kernel_rfl


def inNum (n : Int) : Bool := decide (n ≥ 0) && decide (n ≤ 65535)
theorem C25 (n : Int) : Pure (PCalls Tryd.prog GK) 25 [.d (.int .i64 n)] (b2 (inNum n)) := by
  intro st
  refine pcalls_of k25 e25 (of_decide_eq_true rfl) ?_; dsimp only [c25]
  repeat (first | (with_reducible refine po_movt ?_) | ((with_reducible apply po_pickS); (· first | (simp +decide only [ev, pvc]; done) | (simp +decide only [ev, pvc]; rfl))) | ((with_reducible apply po_idxS); (· rfl); (· rfl); (· assumption)) | (with_reducible refine po_movc ?_) | ((with_reducible apply po_lenM); · rfl) | ((with_reducible apply po); (· rfl); (· rfl)) | ((with_reducible refine po_yt ?_ ?_); · (first | with_reducible rfl | (simp +decide only [pvc]; done))) | ((with_reducible refine po_yf ?_ ?_); · (first | with_reducible rfl | (simp +decide only [pvc]; done))) | ((with_reducible refine po_nt ?_ ?_); · (first | with_reducible rfl | (simp +decide only [pvc]; done))) | ((with_reducible refine po_nf ?_ ?_); · (first | with_reducible rfl | (simp +decide only [pvc]; done))) | ((with_reducible refine po_not' ?_ ?_); · (first | with_reducible rfl | (simp +decide only [pvc]; done))) | ((with_reducible refine pcond_tt ?_ ?_); · (first | with_reducible rfl | (simp +decide only [pvc]; done))) | ((with_reducible refine pcond_ff ?_ ?_); · (first | with_reducible rfl | (simp +decide only [pvc]; done))) | ((with_reducible apply po_g); (· (first | exact wt0 rfl | exact wf0 rfl | exact wt1 rfl | exact wf1 rfl)); (· (intro hw; (try simp only [pvw] at hw); first | ((with_reducible apply does_lenM); (· first | rfl | (simp +decide only [pvc, hw]; done) | (simp +decide only [pvc, hw]; rfl))) | ((with_reducible apply does_loadE); (· first | rfl | (simp +decide only [pvc, hw]; done) | (simp +decide only [pvc, hw]; rfl)); (· rfl)) | ((with_reducible apply does_load); (· first | rfl | (simp +decide only [pvc, hw]; done) | (simp +decide only [pvc, hw]; rfl)); (· (repeat (refine (if_neg ?_).trans ?_; (first | assumption | (apply Ne.symm; assumption)))); first | exact if_pos rfl | assumption); (· rfl)) | ((apply does_N rfl); (first | (simp +decide only [ev, pvc, hw]; done) | (simp +decide only [ev, pvc, hw]; rfl) | rfl))))) | ((with_reducible apply po_loadE); (· rfl); (· rfl)) | ((with_reducible apply po_load); (· rfl); (· (repeat (refine (if_neg ?_).trans ?_; (first | assumption | (apply Ne.symm; assumption)))); first | exact if_pos rfl | assumption); (· rfl)) | ((with_reducible apply po_store); (· rfl); (· rfl); (· (repeat (refine (if_neg ?_).trans ?_; (first | assumption | (apply Ne.symm; assumption)))); first | exact if_pos rfl | assumption); (· exact ⟨rfl, rfl⟩); (· exact of_decide_eq_true rfl); (· rfl); (· exact fun _ _ h => False.elim h)) | (with_reducible refine pnil ?_) | ((with_reducible refine pnext ?_); try simp +decide only [pvc]) | (with_reducible refine pseqr ?_) | (with_reducible first | refine pseqe ?_ | refine pseqe2 ?_ | refine pseqe3 ?_ | refine pseqe4 ?_) | ((fail_if_success (with_reducible refine pseqk ?_)); (with_reducible refine pseq ?_)) | ((with_reducible refine pkeep ?_); (try simp +decide only [pvl, pvt])) | (with_reducible refine pregion ?_) | (with_reducible refine pskip ?_) | (with_reducible refine pret_ ?_) | (with_reducible refine pnext_ret ?_) | (with_reducible refine pexit_ ?_) | (with_reducible refine pnext_exit ?_) | (with_reducible refine pblock_ret ?_) | (with_reducible refine pblock_normal ?_) | (with_reducible refine pexit_in ?_) | (with_reducible refine pexit_out rfl ?_))
  have fin : ∀ {v : Bool}, v = inNum n → some (b2 v) = some (b2 (inNum n)) := fun h => by rw [h]
  by_cases h1 : n ≥ 0
  · rw [decide_eq_true h1]
    repeat (first | (with_reducible refine po_movt ?_) | ((with_reducible apply po_pickS); (· first | (simp +decide only [ev, pvc]; done) | (simp +decide only [ev, pvc]; rfl))) | ((with_reducible apply po_idxS); (· rfl); (· rfl); (· assumption)) | (with_reducible refine po_movc ?_) | ((with_reducible apply po_lenM); · rfl) | ((with_reducible apply po); (· rfl); (· rfl)) | ((with_reducible refine po_yt ?_ ?_); · (first | with_reducible rfl | (simp +decide only [pvc]; done))) | ((with_reducible refine po_yf ?_ ?_); · (first | with_reducible rfl | (simp +decide only [pvc]; done))) | ((with_reducible refine po_nt ?_ ?_); · (first | with_reducible rfl | (simp +decide only [pvc]; done))) | ((with_reducible refine po_nf ?_ ?_); · (first | with_reducible rfl | (simp +decide only [pvc]; done))) | ((with_reducible refine po_not' ?_ ?_); · (first | with_reducible rfl | (simp +decide only [pvc]; done))) | ((with_reducible refine pcond_tt ?_ ?_); · (first | with_reducible rfl | (simp +decide only [pvc]; done))) | ((with_reducible refine pcond_ff ?_ ?_); · (first | with_reducible rfl | (simp +decide only [pvc]; done))) | ((with_reducible apply po_g); (· (first | exact wt0 rfl | exact wf0 rfl | exact wt1 rfl | exact wf1 rfl)); (· (intro hw; (try simp only [pvw] at hw); first | ((with_reducible apply does_lenM); (· first | rfl | (simp +decide only [pvc, hw]; done) | (simp +decide only [pvc, hw]; rfl))) | ((with_reducible apply does_loadE); (· first | rfl | (simp +decide only [pvc, hw]; done) | (simp +decide only [pvc, hw]; rfl)); (· rfl)) | ((with_reducible apply does_load); (· first | rfl | (simp +decide only [pvc, hw]; done) | (simp +decide only [pvc, hw]; rfl)); (· (repeat (refine (if_neg ?_).trans ?_; (first | assumption | (apply Ne.symm; assumption)))); first | exact if_pos rfl | assumption); (· rfl)) | ((apply does_N rfl); (first | (simp +decide only [ev, pvc, hw]; done) | (simp +decide only [ev, pvc, hw]; rfl) | rfl))))) | ((with_reducible apply po_loadE); (· rfl); (· rfl)) | ((with_reducible apply po_load); (· rfl); (· (repeat (refine (if_neg ?_).trans ?_; (first | assumption | (apply Ne.symm; assumption)))); first | exact if_pos rfl | assumption); (· rfl)) | ((with_reducible apply po_store); (· rfl); (· rfl); (· (repeat (refine (if_neg ?_).trans ?_; (first | assumption | (apply Ne.symm; assumption)))); first | exact if_pos rfl | assumption); (· exact ⟨rfl, rfl⟩); (· exact of_decide_eq_true rfl); (· rfl); (· exact fun _ _ h => False.elim h)) | (with_reducible refine pnil ?_) | ((with_reducible refine pnext ?_); try simp +decide only [pvc]) | (with_reducible refine pseqr ?_) | (with_reducible first | refine pseqe ?_ | refine pseqe2 ?_ | refine pseqe3 ?_ | refine pseqe4 ?_) | ((fail_if_success (with_reducible refine pseqk ?_)); (with_reducible refine pseq ?_)) | ((with_reducible refine pkeep ?_); (try simp +decide only [pvl, pvt])) | (with_reducible refine pregion ?_) | (with_reducible refine pskip ?_) | (with_reducible refine pret_ ?_) | (with_reducible refine pnext_ret ?_) | (with_reducible refine pexit_ ?_) | (with_reducible refine pnext_exit ?_) | (with_reducible refine pblock_ret ?_) | (with_reducible refine pblock_normal ?_) | (with_reducible refine pexit_in ?_) | (with_reducible refine pexit_out rfl ?_))
    exact pfin_pure (fin (by simp [inNum, h1])) (.refl _)
  · rw [decide_eq_false h1]
    repeat (first | (with_reducible refine po_movt ?_) | ((with_reducible apply po_pickS); (· first | (simp +decide only [ev, pvc]; done) | (simp +decide only [ev, pvc]; rfl))) | ((with_reducible apply po_idxS); (· rfl); (· rfl); (· assumption)) | (with_reducible refine po_movc ?_) | ((with_reducible apply po_lenM); · rfl) | ((with_reducible apply po); (· rfl); (· rfl)) | ((with_reducible refine po_yt ?_ ?_); · (first | with_reducible rfl | (simp +decide only [pvc]; done))) | ((with_reducible refine po_yf ?_ ?_); · (first | with_reducible rfl | (simp +decide only [pvc]; done))) | ((with_reducible refine po_nt ?_ ?_); · (first | with_reducible rfl | (simp +decide only [pvc]; done))) | ((with_reducible refine po_nf ?_ ?_); · (first | with_reducible rfl | (simp +decide only [pvc]; done))) | ((with_reducible refine po_not' ?_ ?_); · (first | with_reducible rfl | (simp +decide only [pvc]; done))) | ((with_reducible refine pcond_tt ?_ ?_); · (first | with_reducible rfl | (simp +decide only [pvc]; done))) | ((with_reducible refine pcond_ff ?_ ?_); · (first | with_reducible rfl | (simp +decide only [pvc]; done))) | ((with_reducible apply po_g); (· (first | exact wt0 rfl | exact wf0 rfl | exact wt1 rfl | exact wf1 rfl)); (· (intro hw; (try simp only [pvw] at hw); first | ((with_reducible apply does_lenM); (· first | rfl | (simp +decide only [pvc, hw]; done) | (simp +decide only [pvc, hw]; rfl))) | ((with_reducible apply does_loadE); (· first | rfl | (simp +decide only [pvc, hw]; done) | (simp +decide only [pvc, hw]; rfl)); (· rfl)) | ((with_reducible apply does_load); (· first | rfl | (simp +decide only [pvc, hw]; done) | (simp +decide only [pvc, hw]; rfl)); (· (repeat (refine (if_neg ?_).trans ?_; (first | assumption | (apply Ne.symm; assumption)))); first | exact if_pos rfl | assumption); (· rfl)) | ((apply does_N rfl); (first | (simp +decide only [ev, pvc, hw]; done) | (simp +decide only [ev, pvc, hw]; rfl) | rfl))))) | ((with_reducible apply po_loadE); (· rfl); (· rfl)) | ((with_reducible apply po_load); (· rfl); (· (repeat (refine (if_neg ?_).trans ?_; (first | assumption | (apply Ne.symm; assumption)))); first | exact if_pos rfl | assumption); (· rfl)) | ((with_reducible apply po_store); (· rfl); (· rfl); (· (repeat (refine (if_neg ?_).trans ?_; (first | assumption | (apply Ne.symm; assumption)))); first | exact if_pos rfl | assumption); (· exact ⟨rfl, rfl⟩); (· exact of_decide_eq_true rfl); (· rfl); (· exact fun _ _ h => False.elim h)) | (with_reducible refine pnil ?_) | ((with_reducible refine pnext ?_); try simp +decide only [pvc]) | (with_reducible refine pseqr ?_) | (with_reducible first | refine pseqe ?_ | refine pseqe2 ?_ | refine pseqe3 ?_ | refine pseqe4 ?_) | ((fail_if_success (with_reducible refine pseqk ?_)); (with_reducible refine pseq ?_)) | ((with_reducible refine pkeep ?_); (try simp +decide only [pvl, pvt])) | (with_reducible refine pregion ?_) | (with_reducible refine pskip ?_) | (with_reducible refine pret_ ?_) | (with_reducible refine pnext_ret ?_) | (with_reducible refine pexit_ ?_) | (with_reducible refine pnext_exit ?_) | (with_reducible refine pblock_ret ?_) | (with_reducible refine pblock_normal ?_) | (with_reducible refine pexit_in ?_) | (with_reducible refine pexit_out rfl ?_))
    exact pfin_pure (fin (by simp [inNum, h1])) (.refl _)

def face : ByteArray := bs [102, 97, 99, 101]
theorem named_face : isName face = true := by decide +kernel
theorem named_seq : isName (bs [115, 101, 113]) = false := by decide +kernel
theorem named_sequel : isName (bs [115, 101, 113, 117, 101, 108]) = true := by decide +kernel
/-- A table without types, errors, procedures. -/
def bare : AV := .agg [.d (.str face), .d (.int .i64 0), .d (.int .i64 0), .full [], .full [], .full []]
def bareW : AV := .agg [.d (.str face), .d (.int .i64 0), .d (.int .i64 0), .d (.sl []), .d (.sl []), .d (.sl [])]

theorem bare_procs (f k : AV) : Pure (PCalls Tryd.prog GK) 30 [bareW, f, k] (i64 0) := by
  intro st
  refine pcalls_of k30 e30 (of_decide_eq_true rfl) ?_; dsimp only [c30]
  repeat (first | (with_reducible refine po_movt ?_) | ((with_reducible apply po_pickS); (· first | (simp +decide only [ev, pvc]; done) | (simp +decide only [ev, pvc]; rfl))) | ((with_reducible apply po_idxS); (· rfl); (· rfl); (· assumption)) | (with_reducible refine po_movc ?_) | ((with_reducible apply po_lenM); · rfl) | ((with_reducible apply po); (· rfl); (· rfl)) | ((with_reducible refine po_yt ?_ ?_); · (first | with_reducible rfl | (simp +decide only [pvc]; done))) | ((with_reducible refine po_yf ?_ ?_); · (first | with_reducible rfl | (simp +decide only [pvc]; done))) | ((with_reducible refine po_nt ?_ ?_); · (first | with_reducible rfl | (simp +decide only [pvc]; done))) | ((with_reducible refine po_nf ?_ ?_); · (first | with_reducible rfl | (simp +decide only [pvc]; done))) | ((with_reducible refine po_not' ?_ ?_); · (first | with_reducible rfl | (simp +decide only [pvc]; done))) | ((with_reducible refine pcond_tt ?_ ?_); · (first | with_reducible rfl | (simp +decide only [pvc]; done))) | ((with_reducible refine pcond_ff ?_ ?_); · (first | with_reducible rfl | (simp +decide only [pvc]; done))) | ((with_reducible apply po_g); (· (first | exact wt0 rfl | exact wf0 rfl | exact wt1 rfl | exact wf1 rfl)); (· (intro hw; (try simp only [pvw] at hw); first | ((with_reducible apply does_lenM); (· first | rfl | (simp +decide only [pvc, hw]; done) | (simp +decide only [pvc, hw]; rfl))) | ((with_reducible apply does_loadE); (· first | rfl | (simp +decide only [pvc, hw]; done) | (simp +decide only [pvc, hw]; rfl)); (· rfl)) | ((with_reducible apply does_load); (· first | rfl | (simp +decide only [pvc, hw]; done) | (simp +decide only [pvc, hw]; rfl)); (· (repeat (refine (if_neg ?_).trans ?_; (first | assumption | (apply Ne.symm; assumption)))); first | exact if_pos rfl | assumption); (· rfl)) | ((apply does_N rfl); (first | (simp +decide only [ev, pvc, hw]; done) | (simp +decide only [ev, pvc, hw]; rfl) | rfl))))) | ((with_reducible apply po_loadE); (· rfl); (· rfl)) | ((with_reducible apply po_load); (· rfl); (· (repeat (refine (if_neg ?_).trans ?_; (first | assumption | (apply Ne.symm; assumption)))); first | exact if_pos rfl | assumption); (· rfl)) | ((with_reducible apply po_store); (· rfl); (· rfl); (· (repeat (refine (if_neg ?_).trans ?_; (first | assumption | (apply Ne.symm; assumption)))); first | exact if_pos rfl | assumption); (· exact ⟨rfl, rfl⟩); (· exact of_decide_eq_true rfl); (· rfl); (· exact fun _ _ h => False.elim h)) | (with_reducible refine pnil ?_) | ((with_reducible refine pnext ?_); try simp +decide only [pvc]) | (with_reducible refine pseqr ?_) | (with_reducible first | refine pseqe ?_ | refine pseqe2 ?_ | refine pseqe3 ?_ | refine pseqe4 ?_) | ((fail_if_success (with_reducible refine pseqk ?_)); (with_reducible refine pseq ?_)) | ((with_reducible refine pkeep ?_); (try simp +decide only [pvl, pvt])) | (with_reducible refine pregion ?_) | (with_reducible refine pskip ?_) | (with_reducible refine pret_ ?_) | (with_reducible refine pnext_ret ?_) | (with_reducible refine pexit_ ?_) | (with_reducible refine pnext_exit ?_) | (with_reducible refine pblock_ret ?_) | (with_reducible refine pblock_normal ?_) | (with_reducible refine pexit_in ?_) | (with_reducible refine pexit_out rfl ?_))
  refine po_box (cells := [.d (.str face), .d (.int .i64 0), .d (.int .i64 0), .d (.sl []), .d (.sl []), .d (.sl [])]) rfl rfl fun b hb => ?_
  repeat (first | (with_reducible refine po_movt ?_) | ((with_reducible apply po_pickS); (· first | (simp +decide only [ev, pvc]; done) | (simp +decide only [ev, pvc]; rfl))) | ((with_reducible apply po_idxS); (· rfl); (· rfl); (· assumption)) | (with_reducible refine po_movc ?_) | ((with_reducible apply po_lenM); · rfl) | ((with_reducible apply po); (· rfl); (· rfl)) | ((with_reducible refine po_yt ?_ ?_); · (first | with_reducible rfl | (simp +decide only [pvc]; done))) | ((with_reducible refine po_yf ?_ ?_); · (first | with_reducible rfl | (simp +decide only [pvc]; done))) | ((with_reducible refine po_nt ?_ ?_); · (first | with_reducible rfl | (simp +decide only [pvc]; done))) | ((with_reducible refine po_nf ?_ ?_); · (first | with_reducible rfl | (simp +decide only [pvc]; done))) | ((with_reducible refine po_not' ?_ ?_); · (first | with_reducible rfl | (simp +decide only [pvc]; done))) | ((with_reducible refine pcond_tt ?_ ?_); · (first | with_reducible rfl | (simp +decide only [pvc]; done))) | ((with_reducible refine pcond_ff ?_ ?_); · (first | with_reducible rfl | (simp +decide only [pvc]; done))) | ((with_reducible apply po_g); (· (first | exact wt0 rfl | exact wf0 rfl | exact wt1 rfl | exact wf1 rfl)); (· (intro hw; (try simp only [pvw] at hw); first | ((with_reducible apply does_lenM); (· first | rfl | (simp +decide only [pvc, hw]; done) | (simp +decide only [pvc, hw]; rfl))) | ((with_reducible apply does_loadE); (· first | rfl | (simp +decide only [pvc, hw]; done) | (simp +decide only [pvc, hw]; rfl)); (· rfl)) | ((with_reducible apply does_load); (· first | rfl | (simp +decide only [pvc, hw]; done) | (simp +decide only [pvc, hw]; rfl)); (· (repeat (refine (if_neg ?_).trans ?_; (first | assumption | (apply Ne.symm; assumption)))); first | exact if_pos rfl | assumption); (· rfl)) | ((apply does_N rfl); (first | (simp +decide only [ev, pvc, hw]; done) | (simp +decide only [ev, pvc, hw]; rfl) | rfl))))) | ((with_reducible apply po_loadE); (· rfl); (· rfl)) | ((with_reducible apply po_load); (· rfl); (· (repeat (refine (if_neg ?_).trans ?_; (first | assumption | (apply Ne.symm; assumption)))); first | exact if_pos rfl | assumption); (· rfl)) | ((with_reducible apply po_store); (· rfl); (· rfl); (· (repeat (refine (if_neg ?_).trans ?_; (first | assumption | (apply Ne.symm; assumption)))); first | exact if_pos rfl | assumption); (· exact ⟨rfl, rfl⟩); (· exact of_decide_eq_true rfl); (· rfl); (· exact fun _ _ h => False.elim h)) | (with_reducible refine pnil ?_) | ((with_reducible refine pnext ?_); try simp +decide only [pvc]) | (with_reducible refine pseqr ?_) | (with_reducible first | refine pseqe ?_ | refine pseqe2 ?_ | refine pseqe3 ?_ | refine pseqe4 ?_) | ((fail_if_success (with_reducible refine pseqk ?_)); (with_reducible refine pseq ?_)) | ((with_reducible refine pkeep ?_); (try simp +decide only [pvl, pvt])) | (with_reducible refine pregion ?_) | (with_reducible refine pskip ?_) | (with_reducible refine pret_ ?_) | (with_reducible refine pnext_ret ?_) | (with_reducible refine pexit_ ?_) | (with_reducible refine pnext_exit ?_) | (with_reducible refine pblock_ret ?_) | (with_reducible refine pblock_normal ?_) | (with_reducible refine pexit_in ?_) | (with_reducible refine pexit_out rfl ?_))
  refine pzero rfl rfl ?_
  repeat (first | (with_reducible refine po_movt ?_) | ((with_reducible apply po_pickS); (· first | (simp +decide only [ev, pvc]; done) | (simp +decide only [ev, pvc]; rfl))) | ((with_reducible apply po_idxS); (· rfl); (· rfl); (· assumption)) | (with_reducible refine po_movc ?_) | ((with_reducible apply po_lenM); · rfl) | ((with_reducible apply po); (· rfl); (· rfl)) | ((with_reducible refine po_yt ?_ ?_); · (first | with_reducible rfl | (simp +decide only [pvc]; done))) | ((with_reducible refine po_yf ?_ ?_); · (first | with_reducible rfl | (simp +decide only [pvc]; done))) | ((with_reducible refine po_nt ?_ ?_); · (first | with_reducible rfl | (simp +decide only [pvc]; done))) | ((with_reducible refine po_nf ?_ ?_); · (first | with_reducible rfl | (simp +decide only [pvc]; done))) | ((with_reducible refine po_not' ?_ ?_); · (first | with_reducible rfl | (simp +decide only [pvc]; done))) | ((with_reducible refine pcond_tt ?_ ?_); · (first | with_reducible rfl | (simp +decide only [pvc]; done))) | ((with_reducible refine pcond_ff ?_ ?_); · (first | with_reducible rfl | (simp +decide only [pvc]; done))) | ((with_reducible apply po_g); (· (first | exact wt0 rfl | exact wf0 rfl | exact wt1 rfl | exact wf1 rfl)); (· (intro hw; (try simp only [pvw] at hw); first | ((with_reducible apply does_lenM); (· first | rfl | (simp +decide only [pvc, hw]; done) | (simp +decide only [pvc, hw]; rfl))) | ((with_reducible apply does_loadE); (· first | rfl | (simp +decide only [pvc, hw]; done) | (simp +decide only [pvc, hw]; rfl)); (· rfl)) | ((with_reducible apply does_load); (· first | rfl | (simp +decide only [pvc, hw]; done) | (simp +decide only [pvc, hw]; rfl)); (· (repeat (refine (if_neg ?_).trans ?_; (first | assumption | (apply Ne.symm; assumption)))); first | exact if_pos rfl | assumption); (· rfl)) | ((apply does_N rfl); (first | (simp +decide only [ev, pvc, hw]; done) | (simp +decide only [ev, pvc, hw]; rfl) | rfl))))) | ((with_reducible apply po_loadE); (· rfl); (· rfl)) | ((with_reducible apply po_load); (· rfl); (· (repeat (refine (if_neg ?_).trans ?_; (first | assumption | (apply Ne.symm; assumption)))); first | exact if_pos rfl | assumption); (· rfl)) | ((with_reducible apply po_store); (· rfl); (· rfl); (· (repeat (refine (if_neg ?_).trans ?_; (first | assumption | (apply Ne.symm; assumption)))); first | exact if_pos rfl | assumption); (· exact ⟨rfl, rfl⟩); (· exact of_decide_eq_true rfl); (· rfl); (· exact fun _ _ h => False.elim h)) | (with_reducible refine pnil ?_) | ((with_reducible refine pnext ?_); try simp +decide only [pvc]) | (with_reducible refine pseqr ?_) | (with_reducible first | refine pseqe ?_ | refine pseqe2 ?_ | refine pseqe3 ?_ | refine pseqe4 ?_) | ((fail_if_success (with_reducible refine pseqk ?_)); (with_reducible refine pseq ?_)) | ((with_reducible refine pkeep ?_); (try simp +decide only [pvl, pvt])) | (with_reducible refine pregion ?_) | (with_reducible refine pskip ?_) | (with_reducible refine pret_ ?_) | (with_reducible refine pnext_ret ?_) | (with_reducible refine pexit_ ?_) | (with_reducible refine pnext_exit ?_) | (with_reducible refine pblock_ret ?_) | (with_reducible refine pblock_normal ?_) | (with_reducible refine pexit_in ?_) | (with_reducible refine pexit_out rfl ?_))
  exact pfin_pure rfl ((St.le.refl _).setBox _ hb.1)

theorem bare_table : Pure (PCalls Tryd.prog GK) 11 [.agg [.d (.int .u16 0), .d (.sl []), .d (.int .u8 0), .d (.sl [])]] bare := by
  intro st
  refine pcalls_of k11 e11 (of_decide_eq_true rfl) ?_; dsimp only [c11]
  repeat (first | (with_reducible refine po_movt ?_) | ((with_reducible apply po_pickS); (· first | (simp +decide only [ev, pvc]; done) | (simp +decide only [ev, pvc]; rfl))) | ((with_reducible apply po_idxS); (· rfl); (· rfl); (· assumption)) | (with_reducible refine po_movc ?_) | ((with_reducible apply po_lenM); · rfl) | ((with_reducible apply po); (· rfl); (· rfl)) | ((with_reducible refine po_yt ?_ ?_); · (first | with_reducible rfl | (simp +decide only [pvc]; done))) | ((with_reducible refine po_yf ?_ ?_); · (first | with_reducible rfl | (simp +decide only [pvc]; done))) | ((with_reducible refine po_nt ?_ ?_); · (first | with_reducible rfl | (simp +decide only [pvc]; done))) | ((with_reducible refine po_nf ?_ ?_); · (first | with_reducible rfl | (simp +decide only [pvc]; done))) | ((with_reducible refine po_not' ?_ ?_); · (first | with_reducible rfl | (simp +decide only [pvc]; done))) | ((with_reducible refine pcond_tt ?_ ?_); · (first | with_reducible rfl | (simp +decide only [pvc]; done))) | ((with_reducible refine pcond_ff ?_ ?_); · (first | with_reducible rfl | (simp +decide only [pvc]; done))) | ((with_reducible apply po_g); (· (first | exact wt0 rfl | exact wf0 rfl | exact wt1 rfl | exact wf1 rfl)); (· (intro hw; (try simp only [pvw] at hw); first | ((with_reducible apply does_lenM); (· first | rfl | (simp +decide only [pvc, hw]; done) | (simp +decide only [pvc, hw]; rfl))) | ((with_reducible apply does_loadE); (· first | rfl | (simp +decide only [pvc, hw]; done) | (simp +decide only [pvc, hw]; rfl)); (· rfl)) | ((with_reducible apply does_load); (· first | rfl | (simp +decide only [pvc, hw]; done) | (simp +decide only [pvc, hw]; rfl)); (· (repeat (refine (if_neg ?_).trans ?_; (first | assumption | (apply Ne.symm; assumption)))); first | exact if_pos rfl | assumption); (· rfl)) | ((apply does_N rfl); (first | (simp +decide only [ev, pvc, hw]; done) | (simp +decide only [ev, pvc, hw]; rfl) | rfl))))) | ((with_reducible apply po_loadE); (· rfl); (· rfl)) | ((with_reducible apply po_load); (· rfl); (· (repeat (refine (if_neg ?_).trans ?_; (first | assumption | (apply Ne.symm; assumption)))); first | exact if_pos rfl | assumption); (· rfl)) | ((with_reducible apply po_store); (· rfl); (· rfl); (· (repeat (refine (if_neg ?_).trans ?_; (first | assumption | (apply Ne.symm; assumption)))); first | exact if_pos rfl | assumption); (· exact ⟨rfl, rfl⟩); (· exact of_decide_eq_true rfl); (· rfl); (· exact fun _ _ h => False.elim h)) | (with_reducible refine pnil ?_) | ((with_reducible refine pnext ?_); try simp +decide only [pvc]) | (with_reducible refine pseqr ?_) | (with_reducible first | refine pseqe ?_ | refine pseqe2 ?_ | refine pseqe3 ?_ | refine pseqe4 ?_) | ((fail_if_success (with_reducible refine pseqk ?_)); (with_reducible refine pseq ?_)) | ((with_reducible refine pkeep ?_); (try simp +decide only [pvl, pvt])) | (with_reducible refine pregion ?_) | (with_reducible refine pskip ?_) | (with_reducible refine pret_ ?_) | (with_reducible refine pnext_ret ?_) | (with_reducible refine pexit_ ?_) | (with_reducible refine pnext_exit ?_) | (with_reducible refine pblock_ret ?_) | (with_reducible refine pblock_normal ?_) | (with_reducible refine pexit_in ?_) | (with_reducible refine pexit_out rfl ?_))
  refine po_box (cells := [.d (.int .u16 0), .d (.sl []), .d (.int .u8 0), .d (.sl [])]) rfl rfl fun b1 hb1 => ?_
  repeat (first | (with_reducible refine po_movt ?_) | ((with_reducible apply po_pickS); (· first | (simp +decide only [ev, pvc]; done) | (simp +decide only [ev, pvc]; rfl))) | ((with_reducible apply po_idxS); (· rfl); (· rfl); (· assumption)) | (with_reducible refine po_movc ?_) | ((with_reducible apply po_lenM); · rfl) | ((with_reducible apply po); (· rfl); (· rfl)) | ((with_reducible refine po_yt ?_ ?_); · (first | with_reducible rfl | (simp +decide only [pvc]; done))) | ((with_reducible refine po_yf ?_ ?_); · (first | with_reducible rfl | (simp +decide only [pvc]; done))) | ((with_reducible refine po_nt ?_ ?_); · (first | with_reducible rfl | (simp +decide only [pvc]; done))) | ((with_reducible refine po_nf ?_ ?_); · (first | with_reducible rfl | (simp +decide only [pvc]; done))) | ((with_reducible refine po_not' ?_ ?_); · (first | with_reducible rfl | (simp +decide only [pvc]; done))) | ((with_reducible refine pcond_tt ?_ ?_); · (first | with_reducible rfl | (simp +decide only [pvc]; done))) | ((with_reducible refine pcond_ff ?_ ?_); · (first | with_reducible rfl | (simp +decide only [pvc]; done))) | ((with_reducible apply po_g); (· (first | exact wt0 rfl | exact wf0 rfl | exact wt1 rfl | exact wf1 rfl)); (· (intro hw; (try simp only [pvw] at hw); first | ((with_reducible apply does_lenM); (· first | rfl | (simp +decide only [pvc, hw]; done) | (simp +decide only [pvc, hw]; rfl))) | ((with_reducible apply does_loadE); (· first | rfl | (simp +decide only [pvc, hw]; done) | (simp +decide only [pvc, hw]; rfl)); (· rfl)) | ((with_reducible apply does_load); (· first | rfl | (simp +decide only [pvc, hw]; done) | (simp +decide only [pvc, hw]; rfl)); (· (repeat (refine (if_neg ?_).trans ?_; (first | assumption | (apply Ne.symm; assumption)))); first | exact if_pos rfl | assumption); (· rfl)) | ((apply does_N rfl); (first | (simp +decide only [ev, pvc, hw]; done) | (simp +decide only [ev, pvc, hw]; rfl) | rfl))))) | ((with_reducible apply po_loadE); (· rfl); (· rfl)) | ((with_reducible apply po_load); (· rfl); (· (repeat (refine (if_neg ?_).trans ?_; (first | assumption | (apply Ne.symm; assumption)))); first | exact if_pos rfl | assumption); (· rfl)) | ((with_reducible apply po_store); (· rfl); (· rfl); (· (repeat (refine (if_neg ?_).trans ?_; (first | assumption | (apply Ne.symm; assumption)))); first | exact if_pos rfl | assumption); (· exact ⟨rfl, rfl⟩); (· exact of_decide_eq_true rfl); (· rfl); (· exact fun _ _ h => False.elim h)) | (with_reducible refine pnil ?_) | ((with_reducible refine pnext ?_); try simp +decide only [pvc]) | (with_reducible refine pseqr ?_) | (with_reducible first | refine pseqe ?_ | refine pseqe2 ?_ | refine pseqe3 ?_ | refine pseqe4 ?_) | ((fail_if_success (with_reducible refine pseqk ?_)); (with_reducible refine pseq ?_)) | ((with_reducible refine pkeep ?_); (try simp +decide only [pvl, pvt])) | (with_reducible refine pregion ?_) | (with_reducible refine pskip ?_) | (with_reducible refine pret_ ?_) | (with_reducible refine pnext_ret ?_) | (with_reducible refine pexit_ ?_) | (with_reducible refine pnext_exit ?_) | (with_reducible refine pblock_ret ?_) | (with_reducible refine pblock_normal ?_) | (with_reducible refine pexit_in ?_) | (with_reducible refine pexit_out rfl ?_))
  refine po_alloc fun b2 hb2 => ?_
  have n12 : b1 ≠ b2 := fresh_ne hb2
  repeat (first | (with_reducible refine po_movt ?_) | ((with_reducible apply po_pickS); (· first | (simp +decide only [ev, pvc]; done) | (simp +decide only [ev, pvc]; rfl))) | ((with_reducible apply po_idxS); (· rfl); (· rfl); (· assumption)) | (with_reducible refine po_movc ?_) | ((with_reducible apply po_lenM); · rfl) | ((with_reducible apply po); (· rfl); (· rfl)) | ((with_reducible refine po_yt ?_ ?_); · (first | with_reducible rfl | (simp +decide only [pvc]; done))) | ((with_reducible refine po_yf ?_ ?_); · (first | with_reducible rfl | (simp +decide only [pvc]; done))) | ((with_reducible refine po_nt ?_ ?_); · (first | with_reducible rfl | (simp +decide only [pvc]; done))) | ((with_reducible refine po_nf ?_ ?_); · (first | with_reducible rfl | (simp +decide only [pvc]; done))) | ((with_reducible refine po_not' ?_ ?_); · (first | with_reducible rfl | (simp +decide only [pvc]; done))) | ((with_reducible refine pcond_tt ?_ ?_); · (first | with_reducible rfl | (simp +decide only [pvc]; done))) | ((with_reducible refine pcond_ff ?_ ?_); · (first | with_reducible rfl | (simp +decide only [pvc]; done))) | ((with_reducible apply po_g); (· (first | exact wt0 rfl | exact wf0 rfl | exact wt1 rfl | exact wf1 rfl)); (· (intro hw; (try simp only [pvw] at hw); first | ((with_reducible apply does_lenM); (· first | rfl | (simp +decide only [pvc, hw]; done) | (simp +decide only [pvc, hw]; rfl))) | ((with_reducible apply does_loadE); (· first | rfl | (simp +decide only [pvc, hw]; done) | (simp +decide only [pvc, hw]; rfl)); (· rfl)) | ((with_reducible apply does_load); (· first | rfl | (simp +decide only [pvc, hw]; done) | (simp +decide only [pvc, hw]; rfl)); (· (repeat (refine (if_neg ?_).trans ?_; (first | assumption | (apply Ne.symm; assumption)))); first | exact if_pos rfl | assumption); (· rfl)) | ((apply does_N rfl); (first | (simp +decide only [ev, pvc, hw]; done) | (simp +decide only [ev, pvc, hw]; rfl) | rfl))))) | ((with_reducible apply po_loadE); (· rfl); (· rfl)) | ((with_reducible apply po_load); (· rfl); (· (repeat (refine (if_neg ?_).trans ?_; (first | assumption | (apply Ne.symm; assumption)))); first | exact if_pos rfl | assumption); (· rfl)) | ((with_reducible apply po_store); (· rfl); (· rfl); (· (repeat (refine (if_neg ?_).trans ?_; (first | assumption | (apply Ne.symm; assumption)))); first | exact if_pos rfl | assumption); (· exact ⟨rfl, rfl⟩); (· exact of_decide_eq_true rfl); (· rfl); (· exact fun _ _ h => False.elim h)) | (with_reducible refine pnil ?_) | ((with_reducible refine pnext ?_); try simp +decide only [pvc]) | (with_reducible refine pseqr ?_) | (with_reducible first | refine pseqe ?_ | refine pseqe2 ?_ | refine pseqe3 ?_ | refine pseqe4 ?_) | ((fail_if_success (with_reducible refine pseqk ?_)); (with_reducible refine pseq ?_)) | ((with_reducible refine pkeep ?_); (try simp +decide only [pvl, pvt])) | (with_reducible refine pregion ?_) | (with_reducible refine pskip ?_) | (with_reducible refine pret_ ?_) | (with_reducible refine pnext_ret ?_) | (with_reducible refine pexit_ ?_) | (with_reducible refine pnext_exit ?_) | (with_reducible refine pblock_ret ?_) | (with_reducible refine pblock_normal ?_) | (with_reducible refine pexit_in ?_) | (with_reducible refine pexit_out rfl ?_))
  refine po_alloc fun b3 hb3 => ?_
  have n23 : b2 ≠ b3 := fresh_ne hb3
  have n13 : b1 ≠ b3 := fresh_ne (fresh_under hb3)
  repeat (first | (with_reducible refine po_movt ?_) | ((with_reducible apply po_pickS); (· first | (simp +decide only [ev, pvc]; done) | (simp +decide only [ev, pvc]; rfl))) | ((with_reducible apply po_idxS); (· rfl); (· rfl); (· assumption)) | (with_reducible refine po_movc ?_) | ((with_reducible apply po_lenM); · rfl) | ((with_reducible apply po); (· rfl); (· rfl)) | ((with_reducible refine po_yt ?_ ?_); · (first | with_reducible rfl | (simp +decide only [pvc]; done))) | ((with_reducible refine po_yf ?_ ?_); · (first | with_reducible rfl | (simp +decide only [pvc]; done))) | ((with_reducible refine po_nt ?_ ?_); · (first | with_reducible rfl | (simp +decide only [pvc]; done))) | ((with_reducible refine po_nf ?_ ?_); · (first | with_reducible rfl | (simp +decide only [pvc]; done))) | ((with_reducible refine po_not' ?_ ?_); · (first | with_reducible rfl | (simp +decide only [pvc]; done))) | ((with_reducible refine pcond_tt ?_ ?_); · (first | with_reducible rfl | (simp +decide only [pvc]; done))) | ((with_reducible refine pcond_ff ?_ ?_); · (first | with_reducible rfl | (simp +decide only [pvc]; done))) | ((with_reducible apply po_g); (· (first | exact wt0 rfl | exact wf0 rfl | exact wt1 rfl | exact wf1 rfl)); (· (intro hw; (try simp only [pvw] at hw); first | ((with_reducible apply does_lenM); (· first | rfl | (simp +decide only [pvc, hw]; done) | (simp +decide only [pvc, hw]; rfl))) | ((with_reducible apply does_loadE); (· first | rfl | (simp +decide only [pvc, hw]; done) | (simp +decide only [pvc, hw]; rfl)); (· rfl)) | ((with_reducible apply does_load); (· first | rfl | (simp +decide only [pvc, hw]; done) | (simp +decide only [pvc, hw]; rfl)); (· (repeat (refine (if_neg ?_).trans ?_; (first | assumption | (apply Ne.symm; assumption)))); first | exact if_pos rfl | assumption); (· rfl)) | ((apply does_N rfl); (first | (simp +decide only [ev, pvc, hw]; done) | (simp +decide only [ev, pvc, hw]; rfl) | rfl))))) | ((with_reducible apply po_loadE); (· rfl); (· rfl)) | ((with_reducible apply po_load); (· rfl); (· (repeat (refine (if_neg ?_).trans ?_; (first | assumption | (apply Ne.symm; assumption)))); first | exact if_pos rfl | assumption); (· rfl)) | ((with_reducible apply po_store); (· rfl); (· rfl); (· (repeat (refine (if_neg ?_).trans ?_; (first | assumption | (apply Ne.symm; assumption)))); first | exact if_pos rfl | assumption); (· exact ⟨rfl, rfl⟩); (· exact of_decide_eq_true rfl); (· rfl); (· exact fun _ _ h => False.elim h)) | (with_reducible refine pnil ?_) | ((with_reducible refine pnext ?_); try simp +decide only [pvc]) | (with_reducible refine pseqr ?_) | (with_reducible first | refine pseqe ?_ | refine pseqe2 ?_ | refine pseqe3 ?_ | refine pseqe4 ?_) | ((fail_if_success (with_reducible refine pseqk ?_)); (with_reducible refine pseq ?_)) | ((with_reducible refine pkeep ?_); (try simp +decide only [pvl, pvt])) | (with_reducible refine pregion ?_) | (with_reducible refine pskip ?_) | (with_reducible refine pret_ ?_) | (with_reducible refine pnext_ret ?_) | (with_reducible refine pexit_ ?_) | (with_reducible refine pnext_exit ?_) | (with_reducible refine pblock_ret ?_) | (with_reducible refine pblock_normal ?_) | (with_reducible refine pexit_in ?_) | (with_reducible refine pexit_out rfl ?_))
  refine pzero rfl rfl ?_
  repeat (first | (with_reducible refine po_movt ?_) | ((with_reducible apply po_pickS); (· first | (simp +decide only [ev, pvc]; done) | (simp +decide only [ev, pvc]; rfl))) | ((with_reducible apply po_idxS); (· rfl); (· rfl); (· assumption)) | (with_reducible refine po_movc ?_) | ((with_reducible apply po_lenM); · rfl) | ((with_reducible apply po); (· rfl); (· rfl)) | ((with_reducible refine po_yt ?_ ?_); · (first | with_reducible rfl | (simp +decide only [pvc]; done))) | ((with_reducible refine po_yf ?_ ?_); · (first | with_reducible rfl | (simp +decide only [pvc]; done))) | ((with_reducible refine po_nt ?_ ?_); · (first | with_reducible rfl | (simp +decide only [pvc]; done))) | ((with_reducible refine po_nf ?_ ?_); · (first | with_reducible rfl | (simp +decide only [pvc]; done))) | ((with_reducible refine po_not' ?_ ?_); · (first | with_reducible rfl | (simp +decide only [pvc]; done))) | ((with_reducible refine pcond_tt ?_ ?_); · (first | with_reducible rfl | (simp +decide only [pvc]; done))) | ((with_reducible refine pcond_ff ?_ ?_); · (first | with_reducible rfl | (simp +decide only [pvc]; done))) | ((with_reducible apply po_g); (· (first | exact wt0 rfl | exact wf0 rfl | exact wt1 rfl | exact wf1 rfl)); (· (intro hw; (try simp only [pvw] at hw); first | ((with_reducible apply does_lenM); (· first | rfl | (simp +decide only [pvc, hw]; done) | (simp +decide only [pvc, hw]; rfl))) | ((with_reducible apply does_loadE); (· first | rfl | (simp +decide only [pvc, hw]; done) | (simp +decide only [pvc, hw]; rfl)); (· rfl)) | ((with_reducible apply does_load); (· first | rfl | (simp +decide only [pvc, hw]; done) | (simp +decide only [pvc, hw]; rfl)); (· (repeat (refine (if_neg ?_).trans ?_; (first | assumption | (apply Ne.symm; assumption)))); first | exact if_pos rfl | assumption); (· rfl)) | ((apply does_N rfl); (first | (simp +decide only [ev, pvc, hw]; done) | (simp +decide only [ev, pvc, hw]; rfl) | rfl))))) | ((with_reducible apply po_loadE); (· rfl); (· rfl)) | ((with_reducible apply po_load); (· rfl); (· (repeat (refine (if_neg ?_).trans ?_; (first | assumption | (apply Ne.symm; assumption)))); first | exact if_pos rfl | assumption); (· rfl)) | ((with_reducible apply po_store); (· rfl); (· rfl); (· (repeat (refine (if_neg ?_).trans ?_; (first | assumption | (apply Ne.symm; assumption)))); first | exact if_pos rfl | assumption); (· exact ⟨rfl, rfl⟩); (· exact of_decide_eq_true rfl); (· rfl); (· exact fun _ _ h => False.elim h)) | (with_reducible refine pnil ?_) | ((with_reducible refine pnext ?_); try simp +decide only [pvc]) | (with_reducible refine pseqr ?_) | (with_reducible first | refine pseqe ?_ | refine pseqe2 ?_ | refine pseqe3 ?_ | refine pseqe4 ?_) | ((fail_if_success (with_reducible refine pseqk ?_)); (with_reducible refine pseq ?_)) | ((with_reducible refine pkeep ?_); (try simp +decide only [pvl, pvt])) | (with_reducible refine pregion ?_) | (with_reducible refine pskip ?_) | (with_reducible refine pret_ ?_) | (with_reducible refine pnext_ret ?_) | (with_reducible refine pexit_ ?_) | (with_reducible refine pnext_exit ?_) | (with_reducible refine pblock_ret ?_) | (with_reducible refine pblock_normal ?_) | (with_reducible refine pexit_in ?_) | (with_reducible refine pexit_out rfl ?_))
  refine pzero rfl rfl ?_
  repeat (first | (with_reducible refine po_movt ?_) | ((with_reducible apply po_pickS); (· first | (simp +decide only [ev, pvc]; done) | (simp +decide only [ev, pvc]; rfl))) | ((with_reducible apply po_idxS); (· rfl); (· rfl); (· assumption)) | (with_reducible refine po_movc ?_) | ((with_reducible apply po_lenM); · rfl) | ((with_reducible apply po); (· rfl); (· rfl)) | ((with_reducible refine po_yt ?_ ?_); · (first | with_reducible rfl | (simp +decide only [pvc]; done))) | ((with_reducible refine po_yf ?_ ?_); · (first | with_reducible rfl | (simp +decide only [pvc]; done))) | ((with_reducible refine po_nt ?_ ?_); · (first | with_reducible rfl | (simp +decide only [pvc]; done))) | ((with_reducible refine po_nf ?_ ?_); · (first | with_reducible rfl | (simp +decide only [pvc]; done))) | ((with_reducible refine po_not' ?_ ?_); · (first | with_reducible rfl | (simp +decide only [pvc]; done))) | ((with_reducible refine pcond_tt ?_ ?_); · (first | with_reducible rfl | (simp +decide only [pvc]; done))) | ((with_reducible refine pcond_ff ?_ ?_); · (first | with_reducible rfl | (simp +decide only [pvc]; done))) | ((with_reducible apply po_g); (· (first | exact wt0 rfl | exact wf0 rfl | exact wt1 rfl | exact wf1 rfl)); (· (intro hw; (try simp only [pvw] at hw); first | ((with_reducible apply does_lenM); (· first | rfl | (simp +decide only [pvc, hw]; done) | (simp +decide only [pvc, hw]; rfl))) | ((with_reducible apply does_loadE); (· first | rfl | (simp +decide only [pvc, hw]; done) | (simp +decide only [pvc, hw]; rfl)); (· rfl)) | ((with_reducible apply does_load); (· first | rfl | (simp +decide only [pvc, hw]; done) | (simp +decide only [pvc, hw]; rfl)); (· (repeat (refine (if_neg ?_).trans ?_; (first | assumption | (apply Ne.symm; assumption)))); first | exact if_pos rfl | assumption); (· rfl)) | ((apply does_N rfl); (first | (simp +decide only [ev, pvc, hw]; done) | (simp +decide only [ev, pvc, hw]; rfl) | rfl))))) | ((with_reducible apply po_loadE); (· rfl); (· rfl)) | ((with_reducible apply po_load); (· rfl); (· (repeat (refine (if_neg ?_).trans ?_; (first | assumption | (apply Ne.symm; assumption)))); first | exact if_pos rfl | assumption); (· rfl)) | ((with_reducible apply po_store); (· rfl); (· rfl); (· (repeat (refine (if_neg ?_).trans ?_; (first | assumption | (apply Ne.symm; assumption)))); first | exact if_pos rfl | assumption); (· exact ⟨rfl, rfl⟩); (· exact of_decide_eq_true rfl); (· rfl); (· exact fun _ _ h => False.elim h)) | (with_reducible refine pnil ?_) | ((with_reducible refine pnext ?_); try simp +decide only [pvc]) | (with_reducible refine pseqr ?_) | (with_reducible first | refine pseqe ?_ | refine pseqe2 ?_ | refine pseqe3 ?_ | refine pseqe4 ?_) | ((fail_if_success (with_reducible refine pseqk ?_)); (with_reducible refine pseq ?_)) | ((with_reducible refine pkeep ?_); (try simp +decide only [pvl, pvt])) | (with_reducible refine pregion ?_) | (with_reducible refine pskip ?_) | (with_reducible refine pret_ ?_) | (with_reducible refine pnext_ret ?_) | (with_reducible refine pexit_ ?_) | (with_reducible refine pnext_exit ?_) | (with_reducible refine pblock_ret ?_) | (with_reducible refine pblock_normal ?_) | (with_reducible refine pexit_in ?_) | (with_reducible refine pexit_out rfl ?_))
  refine pzero rfl rfl ?_
  repeat (first | (with_reducible refine po_movt ?_) | ((with_reducible apply po_pickS); (· first | (simp +decide only [ev, pvc]; done) | (simp +decide only [ev, pvc]; rfl))) | ((with_reducible apply po_idxS); (· rfl); (· rfl); (· assumption)) | (with_reducible refine po_movc ?_) | ((with_reducible apply po_lenM); · rfl) | ((with_reducible apply po); (· rfl); (· rfl)) | ((with_reducible refine po_yt ?_ ?_); · (first | with_reducible rfl | (simp +decide only [pvc]; done))) | ((with_reducible refine po_yf ?_ ?_); · (first | with_reducible rfl | (simp +decide only [pvc]; done))) | ((with_reducible refine po_nt ?_ ?_); · (first | with_reducible rfl | (simp +decide only [pvc]; done))) | ((with_reducible refine po_nf ?_ ?_); · (first | with_reducible rfl | (simp +decide only [pvc]; done))) | ((with_reducible refine po_not' ?_ ?_); · (first | with_reducible rfl | (simp +decide only [pvc]; done))) | ((with_reducible refine pcond_tt ?_ ?_); · (first | with_reducible rfl | (simp +decide only [pvc]; done))) | ((with_reducible refine pcond_ff ?_ ?_); · (first | with_reducible rfl | (simp +decide only [pvc]; done))) | ((with_reducible apply po_g); (· (first | exact wt0 rfl | exact wf0 rfl | exact wt1 rfl | exact wf1 rfl)); (· (intro hw; (try simp only [pvw] at hw); first | ((with_reducible apply does_lenM); (· first | rfl | (simp +decide only [pvc, hw]; done) | (simp +decide only [pvc, hw]; rfl))) | ((with_reducible apply does_loadE); (· first | rfl | (simp +decide only [pvc, hw]; done) | (simp +decide only [pvc, hw]; rfl)); (· rfl)) | ((with_reducible apply does_load); (· first | rfl | (simp +decide only [pvc, hw]; done) | (simp +decide only [pvc, hw]; rfl)); (· (repeat (refine (if_neg ?_).trans ?_; (first | assumption | (apply Ne.symm; assumption)))); first | exact if_pos rfl | assumption); (· rfl)) | ((apply does_N rfl); (first | (simp +decide only [ev, pvc, hw]; done) | (simp +decide only [ev, pvc, hw]; rfl) | rfl))))) | ((with_reducible apply po_loadE); (· rfl); (· rfl)) | ((with_reducible apply po_load); (· rfl); (· (repeat (refine (if_neg ?_).trans ?_; (first | assumption | (apply Ne.symm; assumption)))); first | exact if_pos rfl | assumption); (· rfl)) | ((with_reducible apply po_store); (· rfl); (· rfl); (· (repeat (refine (if_neg ?_).trans ?_; (first | assumption | (apply Ne.symm; assumption)))); first | exact if_pos rfl | assumption); (· exact ⟨rfl, rfl⟩); (· exact of_decide_eq_true rfl); (· rfl); (· exact fun _ _ h => False.elim h)) | (with_reducible refine pnil ?_) | ((with_reducible refine pnext ?_); try simp +decide only [pvc]) | (with_reducible refine pseqr ?_) | (with_reducible first | refine pseqe ?_ | refine pseqe2 ?_ | refine pseqe3 ?_ | refine pseqe4 ?_) | ((fail_if_success (with_reducible refine pseqk ?_)); (with_reducible refine pseq ?_)) | ((with_reducible refine pkeep ?_); (try simp +decide only [pvl, pvt])) | (with_reducible refine pregion ?_) | (with_reducible refine pskip ?_) | (with_reducible refine pret_ ?_) | (with_reducible refine pnext_ret ?_) | (with_reducible refine pexit_ ?_) | (with_reducible refine pnext_exit ?_) | (with_reducible refine pblock_ret ?_) | (with_reducible refine pblock_normal ?_) | (with_reducible refine pexit_in ?_) | (with_reducible refine pexit_out rfl ?_))
  have f2 : st.fresh b2 := fresh_under hb2
  have f3 : st.fresh b3 := fresh_under (fresh_under hb3)
  refine pfin_pure (pret_one (pres_cell rfl (if_pos rfl) rfl)) (((((St.le.refl _).setBox _ hb1.1).setBox _ f2.1).setBox _ f3.1).setBox _ f2.1)

theorem bare_check : Pure (PCalls Tryd.prog GK) 12 [bareW] (i64 0) := by
  intro st
  refine pcalls_of k12 e12 (of_decide_eq_true rfl) ?_; dsimp only [c12]
  repeat (first | (with_reducible refine po_movt ?_) | ((with_reducible apply po_pickS); (· first | (simp +decide only [ev, pvc]; done) | (simp +decide only [ev, pvc]; rfl))) | ((with_reducible apply po_idxS); (· rfl); (· rfl); (· assumption)) | (with_reducible refine po_movc ?_) | ((with_reducible apply po_lenM); · rfl) | ((with_reducible apply po); (· rfl); (· rfl)) | ((with_reducible refine po_yt ?_ ?_); · (first | with_reducible rfl | (simp +decide only [pvc]; done))) | ((with_reducible refine po_yf ?_ ?_); · (first | with_reducible rfl | (simp +decide only [pvc]; done))) | ((with_reducible refine po_nt ?_ ?_); · (first | with_reducible rfl | (simp +decide only [pvc]; done))) | ((with_reducible refine po_nf ?_ ?_); · (first | with_reducible rfl | (simp +decide only [pvc]; done))) | ((with_reducible refine po_not' ?_ ?_); · (first | with_reducible rfl | (simp +decide only [pvc]; done))) | ((with_reducible refine pcond_tt ?_ ?_); · (first | with_reducible rfl | (simp +decide only [pvc]; done))) | ((with_reducible refine pcond_ff ?_ ?_); · (first | with_reducible rfl | (simp +decide only [pvc]; done))) | ((with_reducible apply po_g); (· (first | exact wt0 rfl | exact wf0 rfl | exact wt1 rfl | exact wf1 rfl)); (· (intro hw; (try simp only [pvw] at hw); first | ((with_reducible apply does_lenM); (· first | rfl | (simp +decide only [pvc, hw]; done) | (simp +decide only [pvc, hw]; rfl))) | ((with_reducible apply does_loadE); (· first | rfl | (simp +decide only [pvc, hw]; done) | (simp +decide only [pvc, hw]; rfl)); (· rfl)) | ((with_reducible apply does_load); (· first | rfl | (simp +decide only [pvc, hw]; done) | (simp +decide only [pvc, hw]; rfl)); (· (repeat (refine (if_neg ?_).trans ?_; (first | assumption | (apply Ne.symm; assumption)))); first | exact if_pos rfl | assumption); (· rfl)) | ((apply does_N rfl); (first | (simp +decide only [ev, pvc, hw]; done) | (simp +decide only [ev, pvc, hw]; rfl) | rfl))))) | ((with_reducible apply po_loadE); (· rfl); (· rfl)) | ((with_reducible apply po_load); (· rfl); (· (repeat (refine (if_neg ?_).trans ?_; (first | assumption | (apply Ne.symm; assumption)))); first | exact if_pos rfl | assumption); (· rfl)) | ((with_reducible apply po_store); (· rfl); (· rfl); (· (repeat (refine (if_neg ?_).trans ?_; (first | assumption | (apply Ne.symm; assumption)))); first | exact if_pos rfl | assumption); (· exact ⟨rfl, rfl⟩); (· exact of_decide_eq_true rfl); (· rfl); (· exact fun _ _ h => False.elim h)) | (with_reducible refine pnil ?_) | ((with_reducible refine pnext ?_); try simp +decide only [pvc]) | (with_reducible refine pseqr ?_) | (with_reducible first | refine pseqe ?_ | refine pseqe2 ?_ | refine pseqe3 ?_ | refine pseqe4 ?_) | ((fail_if_success (with_reducible refine pseqk ?_)); (with_reducible refine pseq ?_)) | ((with_reducible refine pkeep ?_); (try simp +decide only [pvl, pvt])) | (with_reducible refine pregion ?_) | (with_reducible refine pskip ?_) | (with_reducible refine pret_ ?_) | (with_reducible refine pnext_ret ?_) | (with_reducible refine pexit_ ?_) | (with_reducible refine pnext_exit ?_) | (with_reducible refine pblock_ret ?_) | (with_reducible refine pblock_normal ?_) | (with_reducible refine pexit_in ?_) | (with_reducible refine pexit_out rfl ?_))
  refine po_box (cells := [.d (.str face), .d (.int .i64 0), .d (.int .i64 0), .d (.sl []), .d (.sl []), .d (.sl [])]) rfl rfl fun b1 hb1 => ?_
  repeat (first | (with_reducible refine po_movt ?_) | ((with_reducible apply po_pickS); (· first | (simp +decide only [ev, pvc]; done) | (simp +decide only [ev, pvc]; rfl))) | ((with_reducible apply po_idxS); (· rfl); (· rfl); (· assumption)) | (with_reducible refine po_movc ?_) | ((with_reducible apply po_lenM); · rfl) | ((with_reducible apply po); (· rfl); (· rfl)) | ((with_reducible refine po_yt ?_ ?_); · (first | with_reducible rfl | (simp +decide only [pvc]; done))) | ((with_reducible refine po_yf ?_ ?_); · (first | with_reducible rfl | (simp +decide only [pvc]; done))) | ((with_reducible refine po_nt ?_ ?_); · (first | with_reducible rfl | (simp +decide only [pvc]; done))) | ((with_reducible refine po_nf ?_ ?_); · (first | with_reducible rfl | (simp +decide only [pvc]; done))) | ((with_reducible refine po_not' ?_ ?_); · (first | with_reducible rfl | (simp +decide only [pvc]; done))) | ((with_reducible refine pcond_tt ?_ ?_); · (first | with_reducible rfl | (simp +decide only [pvc]; done))) | ((with_reducible refine pcond_ff ?_ ?_); · (first | with_reducible rfl | (simp +decide only [pvc]; done))) | ((with_reducible apply po_g); (· (first | exact wt0 rfl | exact wf0 rfl | exact wt1 rfl | exact wf1 rfl)); (· (intro hw; (try simp only [pvw] at hw); first | ((with_reducible apply does_lenM); (· first | rfl | (simp +decide only [pvc, hw]; done) | (simp +decide only [pvc, hw]; rfl))) | ((with_reducible apply does_loadE); (· first | rfl | (simp +decide only [pvc, hw]; done) | (simp +decide only [pvc, hw]; rfl)); (· rfl)) | ((with_reducible apply does_load); (· first | rfl | (simp +decide only [pvc, hw]; done) | (simp +decide only [pvc, hw]; rfl)); (· (repeat (refine (if_neg ?_).trans ?_; (first | assumption | (apply Ne.symm; assumption)))); first | exact if_pos rfl | assumption); (· rfl)) | ((apply does_N rfl); (first | (simp +decide only [ev, pvc, hw]; done) | (simp +decide only [ev, pvc, hw]; rfl) | rfl))))) | ((with_reducible apply po_loadE); (· rfl); (· rfl)) | ((with_reducible apply po_load); (· rfl); (· (repeat (refine (if_neg ?_).trans ?_; (first | assumption | (apply Ne.symm; assumption)))); first | exact if_pos rfl | assumption); (· rfl)) | ((with_reducible apply po_store); (· rfl); (· rfl); (· (repeat (refine (if_neg ?_).trans ?_; (first | assumption | (apply Ne.symm; assumption)))); first | exact if_pos rfl | assumption); (· exact ⟨rfl, rfl⟩); (· exact of_decide_eq_true rfl); (· rfl); (· exact fun _ _ h => False.elim h)) | (with_reducible refine pnil ?_) | ((with_reducible refine pnext ?_); try simp +decide only [pvc]) | (with_reducible refine pseqr ?_) | (with_reducible first | refine pseqe ?_ | refine pseqe2 ?_ | refine pseqe3 ?_ | refine pseqe4 ?_) | ((fail_if_success (with_reducible refine pseqk ?_)); (with_reducible refine pseq ?_)) | ((with_reducible refine pkeep ?_); (try simp +decide only [pvl, pvt])) | (with_reducible refine pregion ?_) | (with_reducible refine pskip ?_) | (with_reducible refine pret_ ?_) | (with_reducible refine pnext_ret ?_) | (with_reducible refine pexit_ ?_) | (with_reducible refine pnext_exit ?_) | (with_reducible refine pblock_ret ?_) | (with_reducible refine pblock_normal ?_) | (with_reducible refine pexit_in ?_) | (with_reducible refine pexit_out rfl ?_))
  refine po_call rfl (C15 face (by decide)) (fun _ _ h => False.elim h) ?_
  rw [named_face]
  repeat (first | (with_reducible refine po_movt ?_) | ((with_reducible apply po_pickS); (· first | (simp +decide only [ev, pvc]; done) | (simp +decide only [ev, pvc]; rfl))) | ((with_reducible apply po_idxS); (· rfl); (· rfl); (· assumption)) | (with_reducible refine po_movc ?_) | ((with_reducible apply po_lenM); · rfl) | ((with_reducible apply po); (· rfl); (· rfl)) | ((with_reducible refine po_yt ?_ ?_); · (first | with_reducible rfl | (simp +decide only [pvc]; done))) | ((with_reducible refine po_yf ?_ ?_); · (first | with_reducible rfl | (simp +decide only [pvc]; done))) | ((with_reducible refine po_nt ?_ ?_); · (first | with_reducible rfl | (simp +decide only [pvc]; done))) | ((with_reducible refine po_nf ?_ ?_); · (first | with_reducible rfl | (simp +decide only [pvc]; done))) | ((with_reducible refine po_not' ?_ ?_); · (first | with_reducible rfl | (simp +decide only [pvc]; done))) | ((with_reducible refine pcond_tt ?_ ?_); · (first | with_reducible rfl | (simp +decide only [pvc]; done))) | ((with_reducible refine pcond_ff ?_ ?_); · (first | with_reducible rfl | (simp +decide only [pvc]; done))) | ((with_reducible apply po_g); (· (first | exact wt0 rfl | exact wf0 rfl | exact wt1 rfl | exact wf1 rfl)); (· (intro hw; (try simp only [pvw] at hw); first | ((with_reducible apply does_lenM); (· first | rfl | (simp +decide only [pvc, hw]; done) | (simp +decide only [pvc, hw]; rfl))) | ((with_reducible apply does_loadE); (· first | rfl | (simp +decide only [pvc, hw]; done) | (simp +decide only [pvc, hw]; rfl)); (· rfl)) | ((with_reducible apply does_load); (· first | rfl | (simp +decide only [pvc, hw]; done) | (simp +decide only [pvc, hw]; rfl)); (· (repeat (refine (if_neg ?_).trans ?_; (first | assumption | (apply Ne.symm; assumption)))); first | exact if_pos rfl | assumption); (· rfl)) | ((apply does_N rfl); (first | (simp +decide only [ev, pvc, hw]; done) | (simp +decide only [ev, pvc, hw]; rfl) | rfl))))) | ((with_reducible apply po_loadE); (· rfl); (· rfl)) | ((with_reducible apply po_load); (· rfl); (· (repeat (refine (if_neg ?_).trans ?_; (first | assumption | (apply Ne.symm; assumption)))); first | exact if_pos rfl | assumption); (· rfl)) | ((with_reducible apply po_store); (· rfl); (· rfl); (· (repeat (refine (if_neg ?_).trans ?_; (first | assumption | (apply Ne.symm; assumption)))); first | exact if_pos rfl | assumption); (· exact ⟨rfl, rfl⟩); (· exact of_decide_eq_true rfl); (· rfl); (· exact fun _ _ h => False.elim h)) | (with_reducible refine pnil ?_) | ((with_reducible refine pnext ?_); try simp +decide only [pvc]) | (with_reducible refine pseqr ?_) | (with_reducible first | refine pseqe ?_ | refine pseqe2 ?_ | refine pseqe3 ?_ | refine pseqe4 ?_) | ((fail_if_success (with_reducible refine pseqk ?_)); (with_reducible refine pseq ?_)) | ((with_reducible refine pkeep ?_); (try simp +decide only [pvl, pvt])) | (with_reducible refine pregion ?_) | (with_reducible refine pskip ?_) | (with_reducible refine pret_ ?_) | (with_reducible refine pnext_ret ?_) | (with_reducible refine pexit_ ?_) | (with_reducible refine pnext_exit ?_) | (with_reducible refine pblock_ret ?_) | (with_reducible refine pblock_normal ?_) | (with_reducible refine pexit_in ?_) | (with_reducible refine pexit_out rfl ?_))
  refine po_call rfl (C25 0) (fun _ _ h => False.elim h) ?_
  rw [show inNum 0 = true from rfl]
  repeat (first | (with_reducible refine po_movt ?_) | ((with_reducible apply po_pickS); (· first | (simp +decide only [ev, pvc]; done) | (simp +decide only [ev, pvc]; rfl))) | ((with_reducible apply po_idxS); (· rfl); (· rfl); (· assumption)) | (with_reducible refine po_movc ?_) | ((with_reducible apply po_lenM); · rfl) | ((with_reducible apply po); (· rfl); (· rfl)) | ((with_reducible refine po_yt ?_ ?_); · (first | with_reducible rfl | (simp +decide only [pvc]; done))) | ((with_reducible refine po_yf ?_ ?_); · (first | with_reducible rfl | (simp +decide only [pvc]; done))) | ((with_reducible refine po_nt ?_ ?_); · (first | with_reducible rfl | (simp +decide only [pvc]; done))) | ((with_reducible refine po_nf ?_ ?_); · (first | with_reducible rfl | (simp +decide only [pvc]; done))) | ((with_reducible refine po_not' ?_ ?_); · (first | with_reducible rfl | (simp +decide only [pvc]; done))) | ((with_reducible refine pcond_tt ?_ ?_); · (first | with_reducible rfl | (simp +decide only [pvc]; done))) | ((with_reducible refine pcond_ff ?_ ?_); · (first | with_reducible rfl | (simp +decide only [pvc]; done))) | ((with_reducible apply po_g); (· (first | exact wt0 rfl | exact wf0 rfl | exact wt1 rfl | exact wf1 rfl)); (· (intro hw; (try simp only [pvw] at hw); first | ((with_reducible apply does_lenM); (· first | rfl | (simp +decide only [pvc, hw]; done) | (simp +decide only [pvc, hw]; rfl))) | ((with_reducible apply does_loadE); (· first | rfl | (simp +decide only [pvc, hw]; done) | (simp +decide only [pvc, hw]; rfl)); (· rfl)) | ((with_reducible apply does_load); (· first | rfl | (simp +decide only [pvc, hw]; done) | (simp +decide only [pvc, hw]; rfl)); (· (repeat (refine (if_neg ?_).trans ?_; (first | assumption | (apply Ne.symm; assumption)))); first | exact if_pos rfl | assumption); (· rfl)) | ((apply does_N rfl); (first | (simp +decide only [ev, pvc, hw]; done) | (simp +decide only [ev, pvc, hw]; rfl) | rfl))))) | ((with_reducible apply po_loadE); (· rfl); (· rfl)) | ((with_reducible apply po_load); (· rfl); (· (repeat (refine (if_neg ?_).trans ?_; (first | assumption | (apply Ne.symm; assumption)))); first | exact if_pos rfl | assumption); (· rfl)) | ((with_reducible apply po_store); (· rfl); (· rfl); (· (repeat (refine (if_neg ?_).trans ?_; (first | assumption | (apply Ne.symm; assumption)))); first | exact if_pos rfl | assumption); (· exact ⟨rfl, rfl⟩); (· exact of_decide_eq_true rfl); (· rfl); (· exact fun _ _ h => False.elim h)) | (with_reducible refine pnil ?_) | ((with_reducible refine pnext ?_); try simp +decide only [pvc]) | (with_reducible refine pseqr ?_) | (with_reducible first | refine pseqe ?_ | refine pseqe2 ?_ | refine pseqe3 ?_ | refine pseqe4 ?_) | ((fail_if_success (with_reducible refine pseqk ?_)); (with_reducible refine pseq ?_)) | ((with_reducible refine pkeep ?_); (try simp +decide only [pvl, pvt])) | (with_reducible refine pregion ?_) | (with_reducible refine pskip ?_) | (with_reducible refine pret_ ?_) | (with_reducible refine pnext_ret ?_) | (with_reducible refine pexit_ ?_) | (with_reducible refine pnext_exit ?_) | (with_reducible refine pblock_ret ?_) | (with_reducible refine pblock_normal ?_) | (with_reducible refine pexit_in ?_) | (with_reducible refine pexit_out rfl ?_))
  refine po_call rfl (C25 0) (fun _ _ h => False.elim h) ?_
  rw [show inNum 0 = true from rfl]
  repeat (first | (with_reducible refine po_movt ?_) | ((with_reducible apply po_pickS); (· first | (simp +decide only [ev, pvc]; done) | (simp +decide only [ev, pvc]; rfl))) | ((with_reducible apply po_idxS); (· rfl); (· rfl); (· assumption)) | (with_reducible refine po_movc ?_) | ((with_reducible apply po_lenM); · rfl) | ((with_reducible apply po); (· rfl); (· rfl)) | ((with_reducible refine po_yt ?_ ?_); · (first | with_reducible rfl | (simp +decide only [pvc]; done))) | ((with_reducible refine po_yf ?_ ?_); · (first | with_reducible rfl | (simp +decide only [pvc]; done))) | ((with_reducible refine po_nt ?_ ?_); · (first | with_reducible rfl | (simp +decide only [pvc]; done))) | ((with_reducible refine po_nf ?_ ?_); · (first | with_reducible rfl | (simp +decide only [pvc]; done))) | ((with_reducible refine po_not' ?_ ?_); · (first | with_reducible rfl | (simp +decide only [pvc]; done))) | ((with_reducible refine pcond_tt ?_ ?_); · (first | with_reducible rfl | (simp +decide only [pvc]; done))) | ((with_reducible refine pcond_ff ?_ ?_); · (first | with_reducible rfl | (simp +decide only [pvc]; done))) | ((with_reducible apply po_g); (· (first | exact wt0 rfl | exact wf0 rfl | exact wt1 rfl | exact wf1 rfl)); (· (intro hw; (try simp only [pvw] at hw); first | ((with_reducible apply does_lenM); (· first | rfl | (simp +decide only [pvc, hw]; done) | (simp +decide only [pvc, hw]; rfl))) | ((with_reducible apply does_loadE); (· first | rfl | (simp +decide only [pvc, hw]; done) | (simp +decide only [pvc, hw]; rfl)); (· rfl)) | ((with_reducible apply does_load); (· first | rfl | (simp +decide only [pvc, hw]; done) | (simp +decide only [pvc, hw]; rfl)); (· (repeat (refine (if_neg ?_).trans ?_; (first | assumption | (apply Ne.symm; assumption)))); first | exact if_pos rfl | assumption); (· rfl)) | ((apply does_N rfl); (first | (simp +decide only [ev, pvc, hw]; done) | (simp +decide only [ev, pvc, hw]; rfl) | rfl))))) | ((with_reducible apply po_loadE); (· rfl); (· rfl)) | ((with_reducible apply po_load); (· rfl); (· (repeat (refine (if_neg ?_).trans ?_; (first | assumption | (apply Ne.symm; assumption)))); first | exact if_pos rfl | assumption); (· rfl)) | ((with_reducible apply po_store); (· rfl); (· rfl); (· (repeat (refine (if_neg ?_).trans ?_; (first | assumption | (apply Ne.symm; assumption)))); first | exact if_pos rfl | assumption); (· exact ⟨rfl, rfl⟩); (· exact of_decide_eq_true rfl); (· rfl); (· exact fun _ _ h => False.elim h)) | (with_reducible refine pnil ?_) | ((with_reducible refine pnext ?_); try simp +decide only [pvc]) | (with_reducible refine pseqr ?_) | (with_reducible first | refine pseqe ?_ | refine pseqe2 ?_ | refine pseqe3 ?_ | refine pseqe4 ?_) | ((fail_if_success (with_reducible refine pseqk ?_)); (with_reducible refine pseq ?_)) | ((with_reducible refine pkeep ?_); (try simp +decide only [pvl, pvt])) | (with_reducible refine pregion ?_) | (with_reducible refine pskip ?_) | (with_reducible refine pret_ ?_) | (with_reducible refine pnext_ret ?_) | (with_reducible refine pexit_ ?_) | (with_reducible refine pnext_exit ?_) | (with_reducible refine pblock_ret ?_) | (with_reducible refine pblock_normal ?_) | (with_reducible refine pexit_in ?_) | (with_reducible refine pexit_out rfl ?_))
  refine po_alloc fun b2 hb2 => ?_
  have n12 : b1 ≠ b2 := fresh_ne hb2
  have f2 : st.fresh b2 := fresh_under hb2
  repeat (first | (with_reducible refine po_movt ?_) | ((with_reducible apply po_pickS); (· first | (simp +decide only [ev, pvc]; done) | (simp +decide only [ev, pvc]; rfl))) | ((with_reducible apply po_idxS); (· rfl); (· rfl); (· assumption)) | (with_reducible refine po_movc ?_) | ((with_reducible apply po_lenM); · rfl) | ((with_reducible apply po); (· rfl); (· rfl)) | ((with_reducible refine po_yt ?_ ?_); · (first | with_reducible rfl | (simp +decide only [pvc]; done))) | ((with_reducible refine po_yf ?_ ?_); · (first | with_reducible rfl | (simp +decide only [pvc]; done))) | ((with_reducible refine po_nt ?_ ?_); · (first | with_reducible rfl | (simp +decide only [pvc]; done))) | ((with_reducible refine po_nf ?_ ?_); · (first | with_reducible rfl | (simp +decide only [pvc]; done))) | ((with_reducible refine po_not' ?_ ?_); · (first | with_reducible rfl | (simp +decide only [pvc]; done))) | ((with_reducible refine pcond_tt ?_ ?_); · (first | with_reducible rfl | (simp +decide only [pvc]; done))) | ((with_reducible refine pcond_ff ?_ ?_); · (first | with_reducible rfl | (simp +decide only [pvc]; done))) | ((with_reducible apply po_g); (· (first | exact wt0 rfl | exact wf0 rfl | exact wt1 rfl | exact wf1 rfl)); (· (intro hw; (try simp only [pvw] at hw); first | ((with_reducible apply does_lenM); (· first | rfl | (simp +decide only [pvc, hw]; done) | (simp +decide only [pvc, hw]; rfl))) | ((with_reducible apply does_loadE); (· first | rfl | (simp +decide only [pvc, hw]; done) | (simp +decide only [pvc, hw]; rfl)); (· rfl)) | ((with_reducible apply does_load); (· first | rfl | (simp +decide only [pvc, hw]; done) | (simp +decide only [pvc, hw]; rfl)); (· (repeat (refine (if_neg ?_).trans ?_; (first | assumption | (apply Ne.symm; assumption)))); first | exact if_pos rfl | assumption); (· rfl)) | ((apply does_N rfl); (first | (simp +decide only [ev, pvc, hw]; done) | (simp +decide only [ev, pvc, hw]; rfl) | rfl))))) | ((with_reducible apply po_loadE); (· rfl); (· rfl)) | ((with_reducible apply po_load); (· rfl); (· (repeat (refine (if_neg ?_).trans ?_; (first | assumption | (apply Ne.symm; assumption)))); first | exact if_pos rfl | assumption); (· rfl)) | ((with_reducible apply po_store); (· rfl); (· rfl); (· (repeat (refine (if_neg ?_).trans ?_; (first | assumption | (apply Ne.symm; assumption)))); first | exact if_pos rfl | assumption); (· exact ⟨rfl, rfl⟩); (· exact of_decide_eq_true rfl); (· rfl); (· exact fun _ _ h => False.elim h)) | (with_reducible refine pnil ?_) | ((with_reducible refine pnext ?_); try simp +decide only [pvc]) | (with_reducible refine pseqr ?_) | (with_reducible first | refine pseqe ?_ | refine pseqe2 ?_ | refine pseqe3 ?_ | refine pseqe4 ?_) | ((fail_if_success (with_reducible refine pseqk ?_)); (with_reducible refine pseq ?_)) | ((with_reducible refine pkeep ?_); (try simp +decide only [pvl, pvt])) | (with_reducible refine pregion ?_) | (with_reducible refine pskip ?_) | (with_reducible refine pret_ ?_) | (with_reducible refine pnext_ret ?_) | (with_reducible refine pexit_ ?_) | (with_reducible refine pnext_exit ?_) | (with_reducible refine pblock_ret ?_) | (with_reducible refine pblock_normal ?_) | (with_reducible refine pexit_in ?_) | (with_reducible refine pexit_out rfl ?_))
  refine pzero rfl rfl ?_
  repeat (first | (with_reducible refine po_movt ?_) | ((with_reducible apply po_pickS); (· first | (simp +decide only [ev, pvc]; done) | (simp +decide only [ev, pvc]; rfl))) | ((with_reducible apply po_idxS); (· rfl); (· rfl); (· assumption)) | (with_reducible refine po_movc ?_) | ((with_reducible apply po_lenM); · rfl) | ((with_reducible apply po); (· rfl); (· rfl)) | ((with_reducible refine po_yt ?_ ?_); · (first | with_reducible rfl | (simp +decide only [pvc]; done))) | ((with_reducible refine po_yf ?_ ?_); · (first | with_reducible rfl | (simp +decide only [pvc]; done))) | ((with_reducible refine po_nt ?_ ?_); · (first | with_reducible rfl | (simp +decide only [pvc]; done))) | ((with_reducible refine po_nf ?_ ?_); · (first | with_reducible rfl | (simp +decide only [pvc]; done))) | ((with_reducible refine po_not' ?_ ?_); · (first | with_reducible rfl | (simp +decide only [pvc]; done))) | ((with_reducible refine pcond_tt ?_ ?_); · (first | with_reducible rfl | (simp +decide only [pvc]; done))) | ((with_reducible refine pcond_ff ?_ ?_); · (first | with_reducible rfl | (simp +decide only [pvc]; done))) | ((with_reducible apply po_g); (· (first | exact wt0 rfl | exact wf0 rfl | exact wt1 rfl | exact wf1 rfl)); (· (intro hw; (try simp only [pvw] at hw); first | ((with_reducible apply does_lenM); (· first | rfl | (simp +decide only [pvc, hw]; done) | (simp +decide only [pvc, hw]; rfl))) | ((with_reducible apply does_loadE); (· first | rfl | (simp +decide only [pvc, hw]; done) | (simp +decide only [pvc, hw]; rfl)); (· rfl)) | ((with_reducible apply does_load); (· first | rfl | (simp +decide only [pvc, hw]; done) | (simp +decide only [pvc, hw]; rfl)); (· (repeat (refine (if_neg ?_).trans ?_; (first | assumption | (apply Ne.symm; assumption)))); first | exact if_pos rfl | assumption); (· rfl)) | ((apply does_N rfl); (first | (simp +decide only [ev, pvc, hw]; done) | (simp +decide only [ev, pvc, hw]; rfl) | rfl))))) | ((with_reducible apply po_loadE); (· rfl); (· rfl)) | ((with_reducible apply po_load); (· rfl); (· (repeat (refine (if_neg ?_).trans ?_; (first | assumption | (apply Ne.symm; assumption)))); first | exact if_pos rfl | assumption); (· rfl)) | ((with_reducible apply po_store); (· rfl); (· rfl); (· (repeat (refine (if_neg ?_).trans ?_; (first | assumption | (apply Ne.symm; assumption)))); first | exact if_pos rfl | assumption); (· exact ⟨rfl, rfl⟩); (· exact of_decide_eq_true rfl); (· rfl); (· exact fun _ _ h => False.elim h)) | (with_reducible refine pnil ?_) | ((with_reducible refine pnext ?_); try simp +decide only [pvc]) | (with_reducible refine pseqr ?_) | (with_reducible first | refine pseqe ?_ | refine pseqe2 ?_ | refine pseqe3 ?_ | refine pseqe4 ?_) | ((fail_if_success (with_reducible refine pseqk ?_)); (with_reducible refine pseq ?_)) | ((with_reducible refine pkeep ?_); (try simp +decide only [pvl, pvt])) | (with_reducible refine pregion ?_) | (with_reducible refine pskip ?_) | (with_reducible refine pret_ ?_) | (with_reducible refine pnext_ret ?_) | (with_reducible refine pexit_ ?_) | (with_reducible refine pnext_exit ?_) | (with_reducible refine pblock_ret ?_) | (with_reducible refine pblock_normal ?_) | (with_reducible refine pexit_in ?_) | (with_reducible refine pexit_out rfl ?_))
  refine pzero rfl rfl ?_
  repeat (first | (with_reducible refine po_movt ?_) | ((with_reducible apply po_pickS); (· first | (simp +decide only [ev, pvc]; done) | (simp +decide only [ev, pvc]; rfl))) | ((with_reducible apply po_idxS); (· rfl); (· rfl); (· assumption)) | (with_reducible refine po_movc ?_) | ((with_reducible apply po_lenM); · rfl) | ((with_reducible apply po); (· rfl); (· rfl)) | ((with_reducible refine po_yt ?_ ?_); · (first | with_reducible rfl | (simp +decide only [pvc]; done))) | ((with_reducible refine po_yf ?_ ?_); · (first | with_reducible rfl | (simp +decide only [pvc]; done))) | ((with_reducible refine po_nt ?_ ?_); · (first | with_reducible rfl | (simp +decide only [pvc]; done))) | ((with_reducible refine po_nf ?_ ?_); · (first | with_reducible rfl | (simp +decide only [pvc]; done))) | ((with_reducible refine po_not' ?_ ?_); · (first | with_reducible rfl | (simp +decide only [pvc]; done))) | ((with_reducible refine pcond_tt ?_ ?_); · (first | with_reducible rfl | (simp +decide only [pvc]; done))) | ((with_reducible refine pcond_ff ?_ ?_); · (first | with_reducible rfl | (simp +decide only [pvc]; done))) | ((with_reducible apply po_g); (· (first | exact wt0 rfl | exact wf0 rfl | exact wt1 rfl | exact wf1 rfl)); (· (intro hw; (try simp only [pvw] at hw); first | ((with_reducible apply does_lenM); (· first | rfl | (simp +decide only [pvc, hw]; done) | (simp +decide only [pvc, hw]; rfl))) | ((with_reducible apply does_loadE); (· first | rfl | (simp +decide only [pvc, hw]; done) | (simp +decide only [pvc, hw]; rfl)); (· rfl)) | ((with_reducible apply does_load); (· first | rfl | (simp +decide only [pvc, hw]; done) | (simp +decide only [pvc, hw]; rfl)); (· (repeat (refine (if_neg ?_).trans ?_; (first | assumption | (apply Ne.symm; assumption)))); first | exact if_pos rfl | assumption); (· rfl)) | ((apply does_N rfl); (first | (simp +decide only [ev, pvc, hw]; done) | (simp +decide only [ev, pvc, hw]; rfl) | rfl))))) | ((with_reducible apply po_loadE); (· rfl); (· rfl)) | ((with_reducible apply po_load); (· rfl); (· (repeat (refine (if_neg ?_).trans ?_; (first | assumption | (apply Ne.symm; assumption)))); first | exact if_pos rfl | assumption); (· rfl)) | ((with_reducible apply po_store); (· rfl); (· rfl); (· (repeat (refine (if_neg ?_).trans ?_; (first | assumption | (apply Ne.symm; assumption)))); first | exact if_pos rfl | assumption); (· exact ⟨rfl, rfl⟩); (· exact of_decide_eq_true rfl); (· rfl); (· exact fun _ _ h => False.elim h)) | (with_reducible refine pnil ?_) | ((with_reducible refine pnext ?_); try simp +decide only [pvc]) | (with_reducible refine pseqr ?_) | (with_reducible first | refine pseqe ?_ | refine pseqe2 ?_ | refine pseqe3 ?_ | refine pseqe4 ?_) | ((fail_if_success (with_reducible refine pseqk ?_)); (with_reducible refine pseq ?_)) | ((with_reducible refine pkeep ?_); (try simp +decide only [pvl, pvt])) | (with_reducible refine pregion ?_) | (with_reducible refine pskip ?_) | (with_reducible refine pret_ ?_) | (with_reducible refine pnext_ret ?_) | (with_reducible refine pexit_ ?_) | (with_reducible refine pnext_exit ?_) | (with_reducible refine pblock_ret ?_) | (with_reducible refine pblock_normal ?_) | (with_reducible refine pexit_in ?_) | (with_reducible refine pexit_out rfl ?_))
  refine po_call rfl (bare_procs _ _) (fun _ _ h => False.elim h) ?_
  repeat (first | (with_reducible refine po_movt ?_) | ((with_reducible apply po_pickS); (· first | (simp +decide only [ev, pvc]; done) | (simp +decide only [ev, pvc]; rfl))) | ((with_reducible apply po_idxS); (· rfl); (· rfl); (· assumption)) | (with_reducible refine po_movc ?_) | ((with_reducible apply po_lenM); · rfl) | ((with_reducible apply po); (· rfl); (· rfl)) | ((with_reducible refine po_yt ?_ ?_); · (first | with_reducible rfl | (simp +decide only [pvc]; done))) | ((with_reducible refine po_yf ?_ ?_); · (first | with_reducible rfl | (simp +decide only [pvc]; done))) | ((with_reducible refine po_nt ?_ ?_); · (first | with_reducible rfl | (simp +decide only [pvc]; done))) | ((with_reducible refine po_nf ?_ ?_); · (first | with_reducible rfl | (simp +decide only [pvc]; done))) | ((with_reducible refine po_not' ?_ ?_); · (first | with_reducible rfl | (simp +decide only [pvc]; done))) | ((with_reducible refine pcond_tt ?_ ?_); · (first | with_reducible rfl | (simp +decide only [pvc]; done))) | ((with_reducible refine pcond_ff ?_ ?_); · (first | with_reducible rfl | (simp +decide only [pvc]; done))) | ((with_reducible apply po_g); (· (first | exact wt0 rfl | exact wf0 rfl | exact wt1 rfl | exact wf1 rfl)); (· (intro hw; (try simp only [pvw] at hw); first | ((with_reducible apply does_lenM); (· first | rfl | (simp +decide only [pvc, hw]; done) | (simp +decide only [pvc, hw]; rfl))) | ((with_reducible apply does_loadE); (· first | rfl | (simp +decide only [pvc, hw]; done) | (simp +decide only [pvc, hw]; rfl)); (· rfl)) | ((with_reducible apply does_load); (· first | rfl | (simp +decide only [pvc, hw]; done) | (simp +decide only [pvc, hw]; rfl)); (· (repeat (refine (if_neg ?_).trans ?_; (first | assumption | (apply Ne.symm; assumption)))); first | exact if_pos rfl | assumption); (· rfl)) | ((apply does_N rfl); (first | (simp +decide only [ev, pvc, hw]; done) | (simp +decide only [ev, pvc, hw]; rfl) | rfl))))) | ((with_reducible apply po_loadE); (· rfl); (· rfl)) | ((with_reducible apply po_load); (· rfl); (· (repeat (refine (if_neg ?_).trans ?_; (first | assumption | (apply Ne.symm; assumption)))); first | exact if_pos rfl | assumption); (· rfl)) | ((with_reducible apply po_store); (· rfl); (· rfl); (· (repeat (refine (if_neg ?_).trans ?_; (first | assumption | (apply Ne.symm; assumption)))); first | exact if_pos rfl | assumption); (· exact ⟨rfl, rfl⟩); (· exact of_decide_eq_true rfl); (· rfl); (· exact fun _ _ h => False.elim h)) | (with_reducible refine pnil ?_) | ((with_reducible refine pnext ?_); try simp +decide only [pvc]) | (with_reducible refine pseqr ?_) | (with_reducible first | refine pseqe ?_ | refine pseqe2 ?_ | refine pseqe3 ?_ | refine pseqe4 ?_) | ((fail_if_success (with_reducible refine pseqk ?_)); (with_reducible refine pseq ?_)) | ((with_reducible refine pkeep ?_); (try simp +decide only [pvl, pvt])) | (with_reducible refine pregion ?_) | (with_reducible refine pskip ?_) | (with_reducible refine pret_ ?_) | (with_reducible refine pnext_ret ?_) | (with_reducible refine pexit_ ?_) | (with_reducible refine pnext_exit ?_) | (with_reducible refine pblock_ret ?_) | (with_reducible refine pblock_normal ?_) | (with_reducible refine pexit_in ?_) | (with_reducible refine pexit_out rfl ?_))
  exact pfin_pure rfl (((St.le.refl _).setBox _ hb1.1).setBox _ f2.1)

theorem C9 : Pure (PCalls Tryd.prog GK) 9 [] (b2 true) := by
  intro st
  refine pcalls_of k9 e9 (of_decide_eq_true rfl) ?_; dsimp only [c9]
  repeat (first | (with_reducible refine po_movt ?_) | ((with_reducible apply po_pickS); (· first | (simp +decide only [ev, pvc]; done) | (simp +decide only [ev, pvc]; rfl))) | ((with_reducible apply po_idxS); (· rfl); (· rfl); (· assumption)) | (with_reducible refine po_movc ?_) | ((with_reducible apply po_lenM); · rfl) | ((with_reducible apply po); (· rfl); (· rfl)) | ((with_reducible refine po_yt ?_ ?_); · (first | with_reducible rfl | (simp +decide only [pvc]; done))) | ((with_reducible refine po_yf ?_ ?_); · (first | with_reducible rfl | (simp +decide only [pvc]; done))) | ((with_reducible refine po_nt ?_ ?_); · (first | with_reducible rfl | (simp +decide only [pvc]; done))) | ((with_reducible refine po_nf ?_ ?_); · (first | with_reducible rfl | (simp +decide only [pvc]; done))) | ((with_reducible refine po_not' ?_ ?_); · (first | with_reducible rfl | (simp +decide only [pvc]; done))) | ((with_reducible refine pcond_tt ?_ ?_); · (first | with_reducible rfl | (simp +decide only [pvc]; done))) | ((with_reducible refine pcond_ff ?_ ?_); · (first | with_reducible rfl | (simp +decide only [pvc]; done))) | ((with_reducible apply po_g); (· (first | exact wt0 rfl | exact wf0 rfl | exact wt1 rfl | exact wf1 rfl)); (· (intro hw; (try simp only [pvw] at hw); first | ((with_reducible apply does_lenM); (· first | rfl | (simp +decide only [pvc, hw]; done) | (simp +decide only [pvc, hw]; rfl))) | ((with_reducible apply does_loadE); (· first | rfl | (simp +decide only [pvc, hw]; done) | (simp +decide only [pvc, hw]; rfl)); (· rfl)) | ((with_reducible apply does_load); (· first | rfl | (simp +decide only [pvc, hw]; done) | (simp +decide only [pvc, hw]; rfl)); (· (repeat (refine (if_neg ?_).trans ?_; (first | assumption | (apply Ne.symm; assumption)))); first | exact if_pos rfl | assumption); (· rfl)) | ((apply does_N rfl); (first | (simp +decide only [ev, pvc, hw]; done) | (simp +decide only [ev, pvc, hw]; rfl) | rfl))))) | ((with_reducible apply po_loadE); (· rfl); (· rfl)) | ((with_reducible apply po_load); (· rfl); (· (repeat (refine (if_neg ?_).trans ?_; (first | assumption | (apply Ne.symm; assumption)))); first | exact if_pos rfl | assumption); (· rfl)) | ((with_reducible apply po_store); (· rfl); (· rfl); (· (repeat (refine (if_neg ?_).trans ?_; (first | assumption | (apply Ne.symm; assumption)))); first | exact if_pos rfl | assumption); (· exact ⟨rfl, rfl⟩); (· exact of_decide_eq_true rfl); (· rfl); (· exact fun _ _ h => False.elim h)) | (with_reducible refine pnil ?_) | ((with_reducible refine pnext ?_); try simp +decide only [pvc]) | (with_reducible refine pseqr ?_) | (with_reducible first | refine pseqe ?_ | refine pseqe2 ?_ | refine pseqe3 ?_ | refine pseqe4 ?_) | ((fail_if_success (with_reducible refine pseqk ?_)); (with_reducible refine pseq ?_)) | ((with_reducible refine pkeep ?_); (try simp +decide only [pvl, pvt])) | (with_reducible refine pregion ?_) | (with_reducible refine pskip ?_) | (with_reducible refine pret_ ?_) | (with_reducible refine pnext_ret ?_) | (with_reducible refine pexit_ ?_) | (with_reducible refine pnext_exit ?_) | (with_reducible refine pblock_ret ?_) | (with_reducible refine pblock_normal ?_) | (with_reducible refine pexit_in ?_) | (with_reducible refine pexit_out rfl ?_))
  refine po_call rfl (C15 (bs [115, 101, 113]) (by decide)) (fun _ _ h => False.elim h) ?_
  rw [named_seq]
  repeat (first | (with_reducible refine po_movt ?_) | ((with_reducible apply po_pickS); (· first | (simp +decide only [ev, pvc]; done) | (simp +decide only [ev, pvc]; rfl))) | ((with_reducible apply po_idxS); (· rfl); (· rfl); (· assumption)) | (with_reducible refine po_movc ?_) | ((with_reducible apply po_lenM); · rfl) | ((with_reducible apply po); (· rfl); (· rfl)) | ((with_reducible refine po_yt ?_ ?_); · (first | with_reducible rfl | (simp +decide only [pvc]; done))) | ((with_reducible refine po_yf ?_ ?_); · (first | with_reducible rfl | (simp +decide only [pvc]; done))) | ((with_reducible refine po_nt ?_ ?_); · (first | with_reducible rfl | (simp +decide only [pvc]; done))) | ((with_reducible refine po_nf ?_ ?_); · (first | with_reducible rfl | (simp +decide only [pvc]; done))) | ((with_reducible refine po_not' ?_ ?_); · (first | with_reducible rfl | (simp +decide only [pvc]; done))) | ((with_reducible refine pcond_tt ?_ ?_); · (first | with_reducible rfl | (simp +decide only [pvc]; done))) | ((with_reducible refine pcond_ff ?_ ?_); · (first | with_reducible rfl | (simp +decide only [pvc]; done))) | ((with_reducible apply po_g); (· (first | exact wt0 rfl | exact wf0 rfl | exact wt1 rfl | exact wf1 rfl)); (· (intro hw; (try simp only [pvw] at hw); first | ((with_reducible apply does_lenM); (· first | rfl | (simp +decide only [pvc, hw]; done) | (simp +decide only [pvc, hw]; rfl))) | ((with_reducible apply does_loadE); (· first | rfl | (simp +decide only [pvc, hw]; done) | (simp +decide only [pvc, hw]; rfl)); (· rfl)) | ((with_reducible apply does_load); (· first | rfl | (simp +decide only [pvc, hw]; done) | (simp +decide only [pvc, hw]; rfl)); (· (repeat (refine (if_neg ?_).trans ?_; (first | assumption | (apply Ne.symm; assumption)))); first | exact if_pos rfl | assumption); (· rfl)) | ((apply does_N rfl); (first | (simp +decide only [ev, pvc, hw]; done) | (simp +decide only [ev, pvc, hw]; rfl) | rfl))))) | ((with_reducible apply po_loadE); (· rfl); (· rfl)) | ((with_reducible apply po_load); (· rfl); (· (repeat (refine (if_neg ?_).trans ?_; (first | assumption | (apply Ne.symm; assumption)))); first | exact if_pos rfl | assumption); (· rfl)) | ((with_reducible apply po_store); (· rfl); (· rfl); (· (repeat (refine (if_neg ?_).trans ?_; (first | assumption | (apply Ne.symm; assumption)))); first | exact if_pos rfl | assumption); (· exact ⟨rfl, rfl⟩); (· exact of_decide_eq_true rfl); (· rfl); (· exact fun _ _ h => False.elim h)) | (with_reducible refine pnil ?_) | ((with_reducible refine pnext ?_); try simp +decide only [pvc]) | (with_reducible refine pseqr ?_) | (with_reducible first | refine pseqe ?_ | refine pseqe2 ?_ | refine pseqe3 ?_ | refine pseqe4 ?_) | ((fail_if_success (with_reducible refine pseqk ?_)); (with_reducible refine pseq ?_)) | ((with_reducible refine pkeep ?_); (try simp +decide only [pvl, pvt])) | (with_reducible refine pregion ?_) | (with_reducible refine pskip ?_) | (with_reducible refine pret_ ?_) | (with_reducible refine pnext_ret ?_) | (with_reducible refine pexit_ ?_) | (with_reducible refine pnext_exit ?_) | (with_reducible refine pblock_ret ?_) | (with_reducible refine pblock_normal ?_) | (with_reducible refine pexit_in ?_) | (with_reducible refine pexit_out rfl ?_))
  refine po_call rfl (C15 (bs [115, 101, 113, 117, 101, 108]) (by decide)) (fun _ _ h => False.elim h) ?_
  rw [named_sequel]
  repeat (first | (with_reducible refine po_movt ?_) | ((with_reducible apply po_pickS); (· first | (simp +decide only [ev, pvc]; done) | (simp +decide only [ev, pvc]; rfl))) | ((with_reducible apply po_idxS); (· rfl); (· rfl); (· assumption)) | (with_reducible refine po_movc ?_) | ((with_reducible apply po_lenM); · rfl) | ((with_reducible apply po); (· rfl); (· rfl)) | ((with_reducible refine po_yt ?_ ?_); · (first | with_reducible rfl | (simp +decide only [pvc]; done))) | ((with_reducible refine po_yf ?_ ?_); · (first | with_reducible rfl | (simp +decide only [pvc]; done))) | ((with_reducible refine po_nt ?_ ?_); · (first | with_reducible rfl | (simp +decide only [pvc]; done))) | ((with_reducible refine po_nf ?_ ?_); · (first | with_reducible rfl | (simp +decide only [pvc]; done))) | ((with_reducible refine po_not' ?_ ?_); · (first | with_reducible rfl | (simp +decide only [pvc]; done))) | ((with_reducible refine pcond_tt ?_ ?_); · (first | with_reducible rfl | (simp +decide only [pvc]; done))) | ((with_reducible refine pcond_ff ?_ ?_); · (first | with_reducible rfl | (simp +decide only [pvc]; done))) | ((with_reducible apply po_g); (· (first | exact wt0 rfl | exact wf0 rfl | exact wt1 rfl | exact wf1 rfl)); (· (intro hw; (try simp only [pvw] at hw); first | ((with_reducible apply does_lenM); (· first | rfl | (simp +decide only [pvc, hw]; done) | (simp +decide only [pvc, hw]; rfl))) | ((with_reducible apply does_loadE); (· first | rfl | (simp +decide only [pvc, hw]; done) | (simp +decide only [pvc, hw]; rfl)); (· rfl)) | ((with_reducible apply does_load); (· first | rfl | (simp +decide only [pvc, hw]; done) | (simp +decide only [pvc, hw]; rfl)); (· (repeat (refine (if_neg ?_).trans ?_; (first | assumption | (apply Ne.symm; assumption)))); first | exact if_pos rfl | assumption); (· rfl)) | ((apply does_N rfl); (first | (simp +decide only [ev, pvc, hw]; done) | (simp +decide only [ev, pvc, hw]; rfl) | rfl))))) | ((with_reducible apply po_loadE); (· rfl); (· rfl)) | ((with_reducible apply po_load); (· rfl); (· (repeat (refine (if_neg ?_).trans ?_; (first | assumption | (apply Ne.symm; assumption)))); first | exact if_pos rfl | assumption); (· rfl)) | ((with_reducible apply po_store); (· rfl); (· rfl); (· (repeat (refine (if_neg ?_).trans ?_; (first | assumption | (apply Ne.symm; assumption)))); first | exact if_pos rfl | assumption); (· exact ⟨rfl, rfl⟩); (· exact of_decide_eq_true rfl); (· rfl); (· exact fun _ _ h => False.elim h)) | (with_reducible refine pnil ?_) | ((with_reducible refine pnext ?_); try simp +decide only [pvc]) | (with_reducible refine pseqr ?_) | (with_reducible first | refine pseqe ?_ | refine pseqe2 ?_ | refine pseqe3 ?_ | refine pseqe4 ?_) | ((fail_if_success (with_reducible refine pseqk ?_)); (with_reducible refine pseq ?_)) | ((with_reducible refine pkeep ?_); (try simp +decide only [pvl, pvt])) | (with_reducible refine pregion ?_) | (with_reducible refine pskip ?_) | (with_reducible refine pret_ ?_) | (with_reducible refine pnext_ret ?_) | (with_reducible refine pexit_ ?_) | (with_reducible refine pnext_exit ?_) | (with_reducible refine pblock_ret ?_) | (with_reducible refine pblock_normal ?_) | (with_reducible refine pexit_in ?_) | (with_reducible refine pexit_out rfl ?_))
  refine po_call rfl bare_table (fun _ _ h => False.elim h) ?_
  repeat (first | (with_reducible refine po_movt ?_) | ((with_reducible apply po_pickS); (· first | (simp +decide only [ev, pvc]; done) | (simp +decide only [ev, pvc]; rfl))) | ((with_reducible apply po_idxS); (· rfl); (· rfl); (· assumption)) | (with_reducible refine po_movc ?_) | ((with_reducible apply po_lenM); · rfl) | ((with_reducible apply po); (· rfl); (· rfl)) | ((with_reducible refine po_yt ?_ ?_); · (first | with_reducible rfl | (simp +decide only [pvc]; done))) | ((with_reducible refine po_yf ?_ ?_); · (first | with_reducible rfl | (simp +decide only [pvc]; done))) | ((with_reducible refine po_nt ?_ ?_); · (first | with_reducible rfl | (simp +decide only [pvc]; done))) | ((with_reducible refine po_nf ?_ ?_); · (first | with_reducible rfl | (simp +decide only [pvc]; done))) | ((with_reducible refine po_not' ?_ ?_); · (first | with_reducible rfl | (simp +decide only [pvc]; done))) | ((with_reducible refine pcond_tt ?_ ?_); · (first | with_reducible rfl | (simp +decide only [pvc]; done))) | ((with_reducible refine pcond_ff ?_ ?_); · (first | with_reducible rfl | (simp +decide only [pvc]; done))) | ((with_reducible apply po_g); (· (first | exact wt0 rfl | exact wf0 rfl | exact wt1 rfl | exact wf1 rfl)); (· (intro hw; (try simp only [pvw] at hw); first | ((with_reducible apply does_lenM); (· first | rfl | (simp +decide only [pvc, hw]; done) | (simp +decide only [pvc, hw]; rfl))) | ((with_reducible apply does_loadE); (· first | rfl | (simp +decide only [pvc, hw]; done) | (simp +decide only [pvc, hw]; rfl)); (· rfl)) | ((with_reducible apply does_load); (· first | rfl | (simp +decide only [pvc, hw]; done) | (simp +decide only [pvc, hw]; rfl)); (· (repeat (refine (if_neg ?_).trans ?_; (first | assumption | (apply Ne.symm; assumption)))); first | exact if_pos rfl | assumption); (· rfl)) | ((apply does_N rfl); (first | (simp +decide only [ev, pvc, hw]; done) | (simp +decide only [ev, pvc, hw]; rfl) | rfl))))) | ((with_reducible apply po_loadE); (· rfl); (· rfl)) | ((with_reducible apply po_load); (· rfl); (· (repeat (refine (if_neg ?_).trans ?_; (first | assumption | (apply Ne.symm; assumption)))); first | exact if_pos rfl | assumption); (· rfl)) | ((with_reducible apply po_store); (· rfl); (· rfl); (· (repeat (refine (if_neg ?_).trans ?_; (first | assumption | (apply Ne.symm; assumption)))); first | exact if_pos rfl | assumption); (· exact ⟨rfl, rfl⟩); (· exact of_decide_eq_true rfl); (· rfl); (· exact fun _ _ h => False.elim h)) | (with_reducible refine pnil ?_) | ((with_reducible refine pnext ?_); try simp +decide only [pvc]) | (with_reducible refine pseqr ?_) | (with_reducible first | refine pseqe ?_ | refine pseqe2 ?_ | refine pseqe3 ?_ | refine pseqe4 ?_) | ((fail_if_success (with_reducible refine pseqk ?_)); (with_reducible refine pseq ?_)) | ((with_reducible refine pkeep ?_); (try simp +decide only [pvl, pvt])) | (with_reducible refine pregion ?_) | (with_reducible refine pskip ?_) | (with_reducible refine pret_ ?_) | (with_reducible refine pnext_ret ?_) | (with_reducible refine pexit_ ?_) | (with_reducible refine pnext_exit ?_) | (with_reducible refine pblock_ret ?_) | (with_reducible refine pblock_normal ?_) | (with_reducible refine pexit_in ?_) | (with_reducible refine pexit_out rfl ?_))
  refine po_call rfl bare_check (fun _ _ h => False.elim h) ?_
  repeat (first | (with_reducible refine po_movt ?_) | ((with_reducible apply po_pickS); (· first | (simp +decide only [ev, pvc]; done) | (simp +decide only [ev, pvc]; rfl))) | ((with_reducible apply po_idxS); (· rfl); (· rfl); (· assumption)) | (with_reducible refine po_movc ?_) | ((with_reducible apply po_lenM); · rfl) | ((with_reducible apply po); (· rfl); (· rfl)) | ((with_reducible refine po_yt ?_ ?_); · (first | with_reducible rfl | (simp +decide only [pvc]; done))) | ((with_reducible refine po_yf ?_ ?_); · (first | with_reducible rfl | (simp +decide only [pvc]; done))) | ((with_reducible refine po_nt ?_ ?_); · (first | with_reducible rfl | (simp +decide only [pvc]; done))) | ((with_reducible refine po_nf ?_ ?_); · (first | with_reducible rfl | (simp +decide only [pvc]; done))) | ((with_reducible refine po_not' ?_ ?_); · (first | with_reducible rfl | (simp +decide only [pvc]; done))) | ((with_reducible refine pcond_tt ?_ ?_); · (first | with_reducible rfl | (simp +decide only [pvc]; done))) | ((with_reducible refine pcond_ff ?_ ?_); · (first | with_reducible rfl | (simp +decide only [pvc]; done))) | ((with_reducible apply po_g); (· (first | exact wt0 rfl | exact wf0 rfl | exact wt1 rfl | exact wf1 rfl)); (· (intro hw; (try simp only [pvw] at hw); first | ((with_reducible apply does_lenM); (· first | rfl | (simp +decide only [pvc, hw]; done) | (simp +decide only [pvc, hw]; rfl))) | ((with_reducible apply does_loadE); (· first | rfl | (simp +decide only [pvc, hw]; done) | (simp +decide only [pvc, hw]; rfl)); (· rfl)) | ((with_reducible apply does_load); (· first | rfl | (simp +decide only [pvc, hw]; done) | (simp +decide only [pvc, hw]; rfl)); (· (repeat (refine (if_neg ?_).trans ?_; (first | assumption | (apply Ne.symm; assumption)))); first | exact if_pos rfl | assumption); (· rfl)) | ((apply does_N rfl); (first | (simp +decide only [ev, pvc, hw]; done) | (simp +decide only [ev, pvc, hw]; rfl) | rfl))))) | ((with_reducible apply po_loadE); (· rfl); (· rfl)) | ((with_reducible apply po_load); (· rfl); (· (repeat (refine (if_neg ?_).trans ?_; (first | assumption | (apply Ne.symm; assumption)))); first | exact if_pos rfl | assumption); (· rfl)) | ((with_reducible apply po_store); (· rfl); (· rfl); (· (repeat (refine (if_neg ?_).trans ?_; (first | assumption | (apply Ne.symm; assumption)))); first | exact if_pos rfl | assumption); (· exact ⟨rfl, rfl⟩); (· exact of_decide_eq_true rfl); (· rfl); (· exact fun _ _ h => False.elim h)) | (with_reducible refine pnil ?_) | ((with_reducible refine pnext ?_); try simp +decide only [pvc]) | (with_reducible refine pseqr ?_) | (with_reducible first | refine pseqe ?_ | refine pseqe2 ?_ | refine pseqe3 ?_ | refine pseqe4 ?_) | ((fail_if_success (with_reducible refine pseqk ?_)); (with_reducible refine pseq ?_)) | ((with_reducible refine pkeep ?_); (try simp +decide only [pvl, pvt])) | (with_reducible refine pregion ?_) | (with_reducible refine pskip ?_) | (with_reducible refine pret_ ?_) | (with_reducible refine pnext_ret ?_) | (with_reducible refine pexit_ ?_) | (with_reducible refine pnext_exit ?_) | (with_reducible refine pblock_ret ?_) | (with_reducible refine pblock_normal ?_) | (with_reducible refine pexit_in ?_) | (with_reducible refine pexit_out rfl ?_))
  exact pfin_pure rfl (.refl _)
end Go.Pv
