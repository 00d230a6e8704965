/- Functions of the program, by value. No condition. -/
import Derived.Test.YtdggkhnelmonkaaDoorL1
import Derived.Test.YtdggkhnelmonkaaDoorD1
import Derived.Test.YtdggkhnelmonkaaDoorK4
namespace Go.Pv
open Go.Proofs
set_option maxRecDepth 100000
set_option maxHeartbeats 8000000

/-- prompter/kind.number -/
abbrev c34_0 : PCode :=
 (.seq (.region [⟨(.some 3), (.mov (.t 0)), .none⟩,
   ⟨(.some 4), (.bin .geq (.t 3) (.c (.d (.int .i64 0)))), .none⟩,
   ⟨(.some 5), (.mov (.t 4)), .none⟩,
   ⟨(.some 6), (.mov (.t 0)), (.some (5, .true))⟩,
   ⟨(.some 7), (.bin .leq (.t 6) (.c (.d (.int .i64 65535)))), (.some (5, .true))⟩,
   ⟨(.some 8), (.pick (.t 5) (.t 7) (.c (.d (.bool .false)))), .none⟩,
   ⟨(.some 2), (.mov (.t 8)), .none⟩])
 .ret)
def c34 : PFun := ⟨
 (.seq (.region [⟨(.some 2), (.mov (.c (.d (.bool .false)))), .none⟩])
 c34_0),
 1, 9, [(.tmp 2)]⟩

/-- (prompter/kind.Table).Whole -/
abbrev c64_1 : PCode :=
 (.seq (.region [⟨(.some 7), (.load .true 6 (.t 2) .false), .none⟩,
   ⟨(.some 8), (.load .true 4 (.t 3) .false), .none⟩,
   ⟨(.some 9), (.call0 75 [(.t 7), (.t 8), (.c (.d (.int .i64 20))), (.t 6)]), .none⟩,
   ⟨(.some 10), (.ext (.t 9) 0), .none⟩,
   ⟨(.some 11), (.ext (.t 9) 1), .none⟩,
   ⟨.none, (.store 4 (.t 4) (.t 10)), .none⟩,
   ⟨(.some 5), (.mov (.t 11)), .none⟩])
 .ret)
abbrev c64_0 : PCode :=
 (.keep [2, 3, 4] (.seq (.region [⟨(.some 6), (.alloc [(.d (.int .i64 0))]), .none⟩,
   ⟨.none, (.store 1 (.t 6) (.c (.d (.int .i64 200)))), .none⟩])
 c64_1))
def c64 : PFun := ⟨
 (.seq (.region [⟨(.some 2), (.box 6 (.t 0)), .none⟩,
   ⟨(.some 3), (.box 4 (.t 1)), .none⟩,
   ⟨(.some 4), (.alloc [(.d (.int .u8 0)), (.d (.int .i64 0)), (.full []), (.full [])]), .none⟩,
   ⟨(.some 5), (.mov (.c (.d (.int .i64 0)))), .none⟩])
 c64_0),
 2, 12, [(.cell 4 .true 4), (.tmp 5)]⟩

/-- slices.Index[[]int,int] -/
abbrev c63_5 : PCode :=
 (.seq (.region [⟨(.some 17), (.mov (.t 5)), .none⟩,
   ⟨(.some 4), (.mov (.t 17)), .none⟩])
 .ret)
abbrev c63_4 : PCode :=
 (.cond (.t 16)
  c63_5
  .skip)
abbrev c63_3 : PCode :=
 (.seq (.region [⟨(.some 11), (.mov (.t 1)), .none⟩,
   ⟨(.some 12), (.mov (.t 0)), .none⟩,
   ⟨(.some 13), (.mov (.t 5)), .none⟩,
   ⟨(.some 14), (.iaddr 1 (.t 12) (.t 13)), .none⟩,
   ⟨(.some 15), (.load .false 1 (.t 14) .false), .none⟩,
   ⟨(.some 16), (.bin .eql (.t 11) (.t 15)), .none⟩])
 c63_4)
abbrev c63_2 : PCode :=
 (.block 1 (.seq (.region [⟨(.some 10), (.mov (.t 8)), .none⟩,
   ⟨(.some 5), (.mov (.t 10)), .none⟩])
 c63_3))
abbrev c63_1 : PCode :=
 (.keep [0, 1, 7, 8] (.block 0 (.loop (.some [8, 0, 1, 7]) (.seq (.region [⟨(.some 9), (.bin .lss (.t 8) (.t 7)), .none⟩])
 (.seq (.cond (.t 9)
  .skip
  (.exit 0))
 (.seq c63_2
 (.region [⟨(.some 18), (.bin .add (.t 8) (.c (.d (.int .i64 1)))), .none⟩,
   ⟨(.some 8), (.mov (.t 18)), .none⟩])))))))
abbrev c63_6 : PCode :=
 (.seq (.region [⟨(.some 4), (.mov (.c (.d (.int .i64 (-1))))), .none⟩])
 .ret)
abbrev c63_0 : PCode :=
 (.seq (.seq (.region [⟨(.some 6), (.mov (.t 0)), .none⟩,
   ⟨(.some 7), (.len (.t 6)), .none⟩,
   ⟨(.some 8), (.mov (.c (.d (.int .i64 0)))), .none⟩])
 c63_1)
 c63_6)
def c63 : PFun := ⟨
 (.seq (.region [⟨(.some 4), (.mov (.c (.d (.int .i64 0)))), .none⟩])
 c63_0),
 2, 19, [(.tmp 4)]⟩

/-- slices.Contains[[]int,int] -/
abbrev c38_0 : PCode :=
 (.seq (.region [⟨(.some 5), (.mov (.t 0)), .none⟩,
   ⟨(.some 6), (.mov (.t 1)), .none⟩,
   ⟨(.some 7), (.call0 63 [(.t 5), (.t 6)]), .none⟩,
   ⟨(.some 8), (.bin .geq (.t 7) (.c (.d (.int .i64 0)))), .none⟩,
   ⟨(.some 4), (.mov (.t 8)), .none⟩])
 .ret)
def c38 : PFun := ⟨
 (.seq (.region [⟨(.some 4), (.mov (.c (.d (.bool .false)))), .none⟩])
 c38_0),
 2, 9, [(.tmp 4)]⟩

/-- (prompter/kind.Table).Check$1 -/
abbrev c35_2 : PCode :=
 (.seq (.region [⟨(.some 3), (.mov (.c (.d (.int .i64 8)))), .none⟩])
 .ret)
abbrev c35_1 : PCode :=
 (.cond (.t 6)
  c35_2
  .skip)
abbrev c35_5 : PCode :=
 (.seq (.region [⟨(.some 3), (.mov (.c (.d (.int .i64 9)))), .none⟩])
 .ret)
abbrev c35_4 : PCode :=
 (.cond (.t 9)
  c35_5
  .skip)
abbrev c35_7 : PCode :=
 (.keep [] (.seq (.region [⟨(.some 3), (.mov (.c (.d (.int .i64 0)))), .none⟩])
 .ret))
abbrev c35_6 : PCode :=
 (.keep [0, 1] (.seq (.region [⟨(.some 10), (.load .false 1 (.t 1) .false), .none⟩,
   ⟨(.some 11), (.mov (.t 0)), .none⟩,
   ⟨(.some 12), (.bsl 1 [(.t 11)]), .none⟩,
   ⟨(.some 13), (.app 1 16 (.t 10) (.t 12)), .none⟩,
   ⟨.none, (.store 1 (.t 1) (.t 13)), .none⟩])
 c35_7))
abbrev c35_3 : PCode :=
 (.keep [0, 1] (.seq (.seq (.region [⟨(.some 7), (.load .false 1 (.t 1) .false), .none⟩,
   ⟨(.some 8), (.mov (.t 0)), .none⟩,
   ⟨(.some 9), (.call0 36 [(.t 7), (.t 8)]), .none⟩])
 c35_4)
 c35_6))
abbrev c35_0 : PCode :=
 (.seq (.seq (.region [⟨(.some 4), (.mov (.t 0)), .none⟩,
   ⟨(.some 5), (.call0 33 [(.t 4)]), .none⟩,
   ⟨(.some 6), (.not (.t 5)), .none⟩])
 c35_1)
 c35_3)
def c35 : PFun := ⟨
 (.seq (.region [⟨(.some 3), (.mov (.c (.d (.int .i64 0)))), .none⟩])
 c35_0),
 2, 14, [(.tmp 3)]⟩

/-- (prompter/kind.Table).procs -/
abbrev c39_7 : PCode :=
 (.seq (.region [⟨(.some 29), (.mov (.t 10)), .none⟩,
   ⟨(.some 6), (.mov (.t 29)), .none⟩])
 .ret)
abbrev c39_6 : PCode :=
 (.cond (.t 28)
  c39_7
  .skip)
abbrev c39_5 : PCode :=
 (.keep [1, 2, 3, 7, 9, 10, 17, 18, 19] (.seq (.region [⟨(.some 27), (.mov (.t 10)), .none⟩,
   ⟨(.some 28), (.bin .neq (.t 27) (.c (.d (.int .i64 0)))), .none⟩])
 c39_6))
abbrev c39_10 : PCode :=
 (.seq (.region [⟨(.some 6), (.mov (.c (.d (.int .i64 2)))), .none⟩])
 .ret)
abbrev c39_9 : PCode :=
 (.cond (.t 48)
  c39_10
  .skip)
abbrev c39_13 : PCode :=
 (.seq (.region [⟨(.some 6), (.mov (.c (.d (.int .i64 9)))), .none⟩])
 .ret)
abbrev c39_12 : PCode :=
 (.cond (.t 52)
  c39_13
  .skip)
abbrev c39_21 : PCode :=
 (.seq (.region [⟨(.some 73), (.mov (.t 13)), .none⟩,
   ⟨(.some 6), (.mov (.t 73)), .none⟩])
 .ret)
abbrev c39_20 : PCode :=
 (.cond (.t 72)
  c39_21
  .skip)
abbrev c39_19 : PCode :=
 (.keep [1, 2, 3, 7, 12, 13, 17, 18, 19, 62, 63, 64] (.seq (.region [⟨(.some 71), (.mov (.t 13)), .none⟩,
   ⟨(.some 72), (.bin .neq (.t 71) (.c (.d (.int .i64 0)))), .none⟩])
 c39_20))
abbrev c39_25 : PCode :=
 (.seq (.region [⟨(.some 82), (.mov (.t 15)), .none⟩,
   ⟨(.some 6), (.mov (.t 82)), .none⟩])
 .ret)
abbrev c39_24 : PCode :=
 (.cond (.t 81)
  c39_25
  .skip)
abbrev c39_23 : PCode :=
 (.keep [1, 2, 3, 7, 15, 17, 18, 19, 62, 63, 64] (.seq (.region [⟨(.some 80), (.mov (.t 15)), .none⟩,
   ⟨(.some 81), (.bin .neq (.t 80) (.c (.d (.int .i64 0)))), .none⟩])
 c39_24))
abbrev c39_22 : PCode :=
 (.seq (.region [⟨(.some 75), (.load .true 6 (.t 3) .false), .none⟩,
   ⟨(.some 76), (.load .true 4 (.t 12) .false), .none⟩,
   ⟨(.some 77), (.call0 64 [(.t 75), (.t 76)]), .none⟩,
   ⟨(.some 74), (.mov (.t 77)), .none⟩,
   ⟨(.some 78), (.ext (.t 74) 0), .none⟩,
   ⟨(.some 79), (.ext (.t 74) 1), .none⟩,
   ⟨(.some 14), (.alloc [(.d (.int .u8 0)), (.d (.int .i64 0)), (.full []), (.full [])]), .none⟩,
   ⟨.none, (.store 4 (.t 14) (.t 78)), .none⟩,
   ⟨(.some 15), (.mov (.t 79)), .none⟩])
 c39_23)
abbrev c39_18 : PCode :=
 (.keep [1, 2, 3, 7, 12, 17, 18, 19, 62, 63, 64] (.seq (.seq (.region [⟨(.some 68), (.load .true 4 (.t 12) .false), .none⟩,
   ⟨(.some 69), (.mov (.t 2)), .none⟩,
   ⟨(.some 70), (.call0 37 [(.t 68), (.c (.d (.int .i64 5))), (.t 69)]), .none⟩,
   ⟨(.some 13), (.mov (.t 70)), .none⟩])
 c39_19)
 c39_22))
abbrev c39_17 : PCode :=
 (.block 3 (.seq (.region [⟨(.some 66), (.iaddr 4 (.t 62) (.t 64)), .none⟩,
   ⟨(.some 67), (.load .true 4 (.t 66) .false), .none⟩,
   ⟨(.some 12), (.alloc [(.d (.int .u8 0)), (.d (.int .i64 0)), (.full []), (.full [])]), .none⟩,
   ⟨.none, (.store 4 (.t 12) (.t 67)), .none⟩])
 c39_18))
abbrev c39_16 : PCode :=
 (.keep [1, 2, 3, 7, 17, 18, 19, 62, 63, 64] (.block 2 (.loop (.some [64, 1, 2, 3, 7, 17, 18, 19, 62, 63]) (.seq (.region [⟨(.some 65), (.bin .lss (.t 64) (.t 63)), .none⟩])
 (.seq (.cond (.t 65)
  .skip
  (.exit 2))
 (.seq c39_17
 (.region [⟨(.some 83), (.bin .add (.t 64) (.c (.d (.int .i64 1)))), .none⟩,
   ⟨(.some 64), (.mov (.t 83)), .none⟩])))))))
abbrev c39_15 : PCode :=
 (.keep [1, 2, 3, 7, 9, 17, 18, 19] (.seq (.region [⟨(.some 58), (.faddr 2 (.t 9)), .none⟩,
   ⟨(.some 59), (.load .true 4 (.t 58) .false), .none⟩,
   ⟨(.some 60), (.faddr 6 (.t 9)), .none⟩,
   ⟨(.some 61), (.load .true 4 (.t 60) .false), .none⟩,
   ⟨(.some 62), (.bsl 4 [(.t 59), (.t 61)]), .none⟩,
   ⟨(.some 63), (.len (.t 62)), .none⟩,
   ⟨(.some 64), (.mov (.c (.d (.int .i64 0)))), .none⟩])
 c39_16))
abbrev c39_14 : PCode :=
 (.keep [1, 2, 3, 7, 9, 17, 18, 19] (.seq (.region [⟨(.some 53), (.mov (.t 7)), .none⟩,
   ⟨(.some 54), (.faddr 1 (.t 9)), .none⟩,
   ⟨(.some 55), (.load .false 1 (.t 54) .false), .none⟩,
   ⟨(.some 56), (.bsl 1 [(.t 55)]), .none⟩,
   ⟨(.some 57), (.app 1 8 (.t 53) (.t 56)), .none⟩,
   ⟨(.some 7), (.mov (.t 57)), .none⟩])
 c39_15))
abbrev c39_11 : PCode :=
 (.keep [1, 2, 3, 7, 9, 17, 18, 19] (.seq (.seq (.region [⟨(.some 49), (.mov (.t 7)), .none⟩,
   ⟨(.some 50), (.faddr 1 (.t 9)), .none⟩,
   ⟨(.some 51), (.load .false 1 (.t 50) .false), .none⟩,
   ⟨(.some 52), (.call0 38 [(.t 49), (.t 51)]), .none⟩])
 c39_12)
 c39_14))
abbrev c39_8 : PCode :=
 (.seq (.seq (.region [⟨(.some 30), (.faddr 1 (.t 9)), .none⟩,
   ⟨(.some 31), (.load .false 1 (.t 30) .false), .none⟩,
   ⟨(.some 32), (.call0 34 [(.t 31)]), .none⟩,
   ⟨(.some 33), (.not (.t 32)), .none⟩,
   ⟨(.some 34), (.mov (.t 33)), .none⟩,
   ⟨(.some 35), (.faddr 11 (.t 9)), (.some (34, .false))⟩,
   ⟨(.some 36), (.load .false 1 (.t 35) .false), (.some (34, .false))⟩,
   ⟨(.some 37), (.bin .lss (.t 36) (.c (.d (.int .i64 1)))), (.some (34, .false))⟩,
   ⟨(.some 38), (.pick (.t 34) (.c (.d (.bool .true))) (.t 37)), .none⟩,
   ⟨(.some 39), (.mov (.t 38)), .none⟩,
   ⟨(.some 40), (.faddr 11 (.t 9)), (.some (39, .false))⟩,
   ⟨(.some 41), (.load .false 1 (.t 40) .false), (.some (39, .false))⟩,
   ⟨(.some 42), (.bin .gtr (.t 41) (.c (.d (.int .i64 1000)))), (.some (39, .false))⟩,
   ⟨(.some 43), (.pick (.t 39) (.c (.d (.bool .true))) (.t 42)), .none⟩,
   ⟨(.some 44), (.mov (.t 43)), .none⟩,
   ⟨(.some 45), (.faddr 10 (.t 9)), (.some (44, .false))⟩,
   ⟨(.some 46), (.load .false 1 (.t 45) .false), (.some (44, .false))⟩,
   ⟨(.some 47), (.bin .geq (.t 46) (.c (.d (.int .u8 3)))), (.some (44, .false))⟩,
   ⟨(.some 48), (.pick (.t 44) (.c (.d (.bool .true))) (.t 47)), .none⟩])
 c39_9)
 c39_11)
abbrev c39_4 : PCode :=
 (.keep [1, 2, 3, 7, 9, 17, 18, 19] (.seq (.seq (.region [⟨(.some 23), (.mov (.t 1)), .none⟩,
   ⟨(.some 24), (.faddr 0 (.t 9)), .none⟩,
   ⟨(.some 25), (.load .false 1 (.t 24) .false), .none⟩,
   ⟨(.some 26), (.callv0 (.t 23) [(.t 25)]), .none⟩,
   ⟨(.some 10), (.mov (.t 26)), .none⟩])
 c39_5)
 c39_8))
abbrev c39_3 : PCode :=
 (.block 1 (.seq (.region [⟨(.some 21), (.iaddr 12 (.t 17) (.t 19)), .none⟩,
   ⟨(.some 22), (.load .true 12 (.t 21) .false), .none⟩,
   ⟨(.some 9), (.alloc [(.d (.str (bs []))), (.d (.int .i64 0)), (.d (.int .u8 0)), (.d (.int .i64 0)), (.full []), (.full []), (.d (.int .u8 0)), (.d (.int .i64 0)), (.full []), (.full []), (.d (.int .u8 0)), (.d (.int .i64 0))]), .none⟩,
   ⟨.none, (.store 12 (.t 9) (.t 22)), .none⟩])
 c39_4))
abbrev c39_2 : PCode :=
 (.keep [1, 2, 3, 7, 17, 18, 19] (.block 0 (.loop (.some [19, 7, 1, 2, 3, 17, 18]) (.seq (.region [⟨(.some 20), (.bin .lss (.t 19) (.t 18)), .none⟩])
 (.seq (.cond (.t 20)
  .skip
  (.exit 0))
 (.seq c39_3
 (.region [⟨(.some 84), (.bin .add (.t 19) (.c (.d (.int .i64 1)))), .none⟩,
   ⟨(.some 19), (.mov (.t 84)), .none⟩])))))))
abbrev c39_26 : PCode :=
 (.seq (.region [⟨(.some 6), (.mov (.c (.d (.int .i64 0)))), .none⟩])
 .ret)
abbrev c39_1 : PCode :=
 (.seq (.seq (.region [⟨(.some 16), (.faddr 5 (.t 3)), .none⟩,
   ⟨(.some 17), (.load .false 1 (.t 16) .false), .none⟩,
   ⟨(.some 18), (.len (.t 17)), .none⟩,
   ⟨(.some 19), (.mov (.c (.d (.int .i64 0)))), .none⟩])
 c39_2)
 c39_26)
abbrev c39_0 : PCode :=
 (.seq (.region [⟨(.some 7), (.mov (.c (.full []))), .none⟩])
 c39_1)
def c39 : PFun := ⟨
 (.seq (.region [⟨(.some 3), (.box 6 (.t 0)), .none⟩,
   ⟨(.some 6), (.mov (.c (.d (.int .i64 0)))), .none⟩])
 c39_0),
 3, 85, [(.tmp 6)]⟩

/-- (prompter/kind.Table).Check -/
abbrev c18_2 : PCode :=
 (.seq (.region [⟨(.some 2), (.mov (.c (.d (.int .i64 8)))), .none⟩])
 .ret)
abbrev c18_1 : PCode :=
 (.cond (.t 17)
  c18_2
  .skip)
abbrev c18_5 : PCode :=
 (.seq (.region [⟨(.some 2), (.mov (.c (.d (.int .i64 2)))), .none⟩])
 .ret)
abbrev c18_4 : PCode :=
 (.cond (.t 27)
  c18_5
  .skip)
abbrev c18_8 : PCode :=
 (.seq (.region [⟨(.some 2), (.mov (.c (.d (.int .i64 7)))), .none⟩])
 .ret)
abbrev c18_7 : PCode :=
 (.cond (.t 43)
  c18_8
  .skip)
abbrev c18_17 : PCode :=
 (.seq (.region [⟨(.some 58), (.mov (.t 8)), .none⟩,
   ⟨(.some 2), (.mov (.t 58)), .none⟩])
 .ret)
abbrev c18_16 : PCode :=
 (.cond (.t 57)
  c18_17
  .skip)
abbrev c18_15 : PCode :=
 (.keep [1, 3, 5, 7, 8, 46, 47, 48] (.seq (.region [⟨(.some 56), (.mov (.t 8)), .none⟩,
   ⟨(.some 57), (.bin .neq (.t 56) (.c (.d (.int .i64 0)))), .none⟩])
 c18_16))
abbrev c18_21 : PCode :=
 (.seq (.region [⟨(.some 65), (.mov (.t 9)), .none⟩,
   ⟨(.some 2), (.mov (.t 65)), .none⟩])
 .ret)
abbrev c18_20 : PCode :=
 (.cond (.t 64)
  c18_21
  .skip)
abbrev c18_19 : PCode :=
 (.keep [1, 3, 5, 7, 9, 46, 47, 48] (.seq (.region [⟨(.some 63), (.mov (.t 9)), .none⟩,
   ⟨(.some 64), (.bin .neq (.t 63) (.c (.d (.int .i64 0)))), .none⟩])
 c18_20))
abbrev c18_22 : PCode :=
 (.region [⟨(.some 66), (.mov (.t 3)), .none⟩,
   ⟨(.some 67), (.faddr 0 (.t 7)), .none⟩,
   ⟨(.some 68), (.load .false 1 (.t 67) .false), .none⟩,
   ⟨(.some 69), (.bsl 1 [(.t 68)]), .none⟩,
   ⟨(.some 70), (.app 1 16 (.t 66) (.t 69)), .none⟩,
   ⟨(.some 3), (.mov (.t 70)), .none⟩])
abbrev c18_18 : PCode :=
 (.seq (.seq (.region [⟨(.some 59), (.faddr 1 (.t 7)), .none⟩,
   ⟨(.some 60), (.load .true 4 (.t 59) .false), .none⟩,
   ⟨(.some 61), (.mov (.t 3)), .none⟩,
   ⟨(.some 62), (.call0 37 [(.t 60), (.c (.d (.int .i64 5))), (.t 61)]), .none⟩,
   ⟨(.some 9), (.mov (.t 62)), .none⟩])
 c18_19)
 c18_22)
abbrev c18_14 : PCode :=
 (.keep [1, 3, 5, 7, 46, 47, 48] (.seq (.seq (.region [⟨(.some 52), (.mov (.t 5)), .none⟩,
   ⟨(.some 53), (.faddr 0 (.t 7)), .none⟩,
   ⟨(.some 54), (.load .false 1 (.t 53) .false), .none⟩,
   ⟨(.some 55), (.callv0 (.t 52) [(.t 54)]), .none⟩,
   ⟨(.some 8), (.mov (.t 55)), .none⟩])
 c18_15)
 c18_18))
abbrev c18_13 : PCode :=
 (.block 1 (.seq (.region [⟨(.some 50), (.iaddr 5 (.t 46) (.t 48)), .none⟩,
   ⟨(.some 51), (.load .true 5 (.t 50) .false), .none⟩,
   ⟨(.some 7), (.alloc [(.d (.str (bs []))), (.d (.int .u8 0)), (.d (.int .i64 0)), (.full []), (.full [])]), .none⟩,
   ⟨.none, (.store 5 (.t 7) (.t 51)), .none⟩])
 c18_14))
abbrev c18_12 : PCode :=
 (.keep [1, 3, 5, 46, 47, 48] (.block 0 (.loop (.some [48, 3, 1, 5, 46, 47]) (.seq (.region [⟨(.some 49), (.bin .lss (.t 48) (.t 47)), .none⟩])
 (.seq (.cond (.t 49)
  .skip
  (.exit 0))
 (.seq c18_13
 (.region [⟨(.some 71), (.bin .add (.t 48) (.c (.d (.int .i64 1)))), .none⟩,
   ⟨(.some 48), (.mov (.t 71)), .none⟩])))))))
abbrev c18_30 : PCode :=
 (.seq (.region [⟨(.some 85), (.mov (.t 13)), .none⟩,
   ⟨(.some 2), (.mov (.t 85)), .none⟩])
 .ret)
abbrev c18_29 : PCode :=
 (.cond (.t 84)
  c18_30
  .skip)
abbrev c18_28 : PCode :=
 (.keep [1, 3, 5, 10, 12, 13, 73, 74, 75] (.seq (.region [⟨(.some 83), (.mov (.t 13)), .none⟩,
   ⟨(.some 84), (.bin .neq (.t 83) (.c (.d (.int .i64 0)))), .none⟩])
 c18_29))
abbrev c18_33 : PCode :=
 (.seq (.region [⟨(.some 2), (.mov (.c (.d (.int .i64 2)))), .none⟩])
 .ret)
abbrev c18_32 : PCode :=
 (.cond (.t 89)
  c18_33
  .skip)
abbrev c18_36 : PCode :=
 (.seq (.region [⟨(.some 2), (.mov (.c (.d (.int .i64 9)))), .none⟩])
 .ret)
abbrev c18_35 : PCode :=
 (.cond (.t 93)
  c18_36
  .skip)
abbrev c18_37 : PCode :=
 (.keep [1, 3, 5, 10, 12, 73, 74, 75] (.region [⟨(.some 94), (.mov (.t 10)), .none⟩,
   ⟨(.some 95), (.faddr 1 (.t 12)), .none⟩,
   ⟨(.some 96), (.load .false 1 (.t 95) .false), .none⟩,
   ⟨(.some 97), (.bsl 1 [(.t 96)]), .none⟩,
   ⟨(.some 98), (.app 1 8 (.t 94) (.t 97)), .none⟩,
   ⟨(.some 10), (.mov (.t 98)), .none⟩]))
abbrev c18_34 : PCode :=
 (.keep [1, 3, 5, 10, 12, 73, 74, 75] (.seq (.seq (.region [⟨(.some 90), (.mov (.t 10)), .none⟩,
   ⟨(.some 91), (.faddr 1 (.t 12)), .none⟩,
   ⟨(.some 92), (.load .false 1 (.t 91) .false), .none⟩,
   ⟨(.some 93), (.call0 38 [(.t 90), (.t 92)]), .none⟩])
 c18_35)
 c18_37))
abbrev c18_31 : PCode :=
 (.seq (.seq (.region [⟨(.some 86), (.faddr 1 (.t 12)), .none⟩,
   ⟨(.some 87), (.load .false 1 (.t 86) .false), .none⟩,
   ⟨(.some 88), (.call0 34 [(.t 87)]), .none⟩,
   ⟨(.some 89), (.not (.t 88)), .none⟩])
 c18_32)
 c18_34)
abbrev c18_27 : PCode :=
 (.keep [1, 3, 5, 10, 12, 73, 74, 75] (.seq (.seq (.region [⟨(.some 79), (.mov (.t 5)), .none⟩,
   ⟨(.some 80), (.faddr 0 (.t 12)), .none⟩,
   ⟨(.some 81), (.load .false 1 (.t 80) .false), .none⟩,
   ⟨(.some 82), (.callv0 (.t 79) [(.t 81)]), .none⟩,
   ⟨(.some 13), (.mov (.t 82)), .none⟩])
 c18_28)
 c18_31))
abbrev c18_26 : PCode :=
 (.block 3 (.seq (.region [⟨(.some 77), (.iaddr 2 (.t 73) (.t 75)), .none⟩,
   ⟨(.some 78), (.load .true 2 (.t 77) .false), .none⟩,
   ⟨(.some 12), (.alloc [(.d (.str (bs []))), (.d (.int .i64 0))]), .none⟩,
   ⟨.none, (.store 2 (.t 12) (.t 78)), .none⟩])
 c18_27))
abbrev c18_25 : PCode :=
 (.keep [1, 3, 5, 10, 73, 74, 75] (.block 2 (.loop (.some [75, 10, 1, 3, 5, 73, 74]) (.seq (.region [⟨(.some 76), (.bin .lss (.t 75) (.t 74)), .none⟩])
 (.seq (.cond (.t 76)
  .skip
  (.exit 2))
 (.seq c18_26
 (.region [⟨(.some 99), (.bin .add (.t 75) (.c (.d (.int .i64 1)))), .none⟩,
   ⟨(.some 75), (.mov (.t 99)), .none⟩])))))))
abbrev c18_38 : PCode :=
 (.seq (.region [⟨(.some 100), (.load .true 6 (.t 1) .false), .none⟩,
   ⟨(.some 101), (.mov (.t 5)), .none⟩,
   ⟨(.some 102), (.mov (.t 3)), .none⟩,
   ⟨(.some 103), (.call0 39 [(.t 100), (.t 101), (.t 102)]), .none⟩,
   ⟨(.some 2), (.mov (.t 103)), .none⟩])
 .ret)
abbrev c18_24 : PCode :=
 (.seq (.seq (.region [⟨(.some 72), (.faddr 4 (.t 1)), .none⟩,
   ⟨(.some 73), (.load .false 1 (.t 72) .false), .none⟩,
   ⟨(.some 74), (.len (.t 73)), .none⟩,
   ⟨(.some 75), (.mov (.c (.d (.int .i64 0)))), .none⟩])
 c18_25)
 c18_38)
abbrev c18_23 : PCode :=
 (.seq (.region [⟨(.some 10), (.mov (.c (.full []))), .none⟩])
 c18_24)
abbrev c18_11 : PCode :=
 (.seq (.seq (.region [⟨(.some 45), (.faddr 3 (.t 1)), .none⟩,
   ⟨(.some 46), (.load .false 1 (.t 45) .false), .none⟩,
   ⟨(.some 47), (.len (.t 46)), .none⟩,
   ⟨(.some 48), (.mov (.c (.d (.int .i64 0)))), .none⟩])
 c18_12)
 c18_23)
abbrev c18_10 : PCode :=
 (.seq (.region [⟨(.some 44), (.mkfn 35 [] [(.t 4)]), .none⟩,
   ⟨(.some 5), (.mov (.t 44)), .none⟩])
 c18_11)
abbrev c18_9 : PCode :=
 (.keep [1] (.seq (.region [⟨(.some 3), (.mov (.c (.full []))), .none⟩,
   ⟨(.some 4), (.alloc [(.full [])]), .none⟩])
 c18_10))
abbrev c18_6 : PCode :=
 (.keep [1] (.seq (.seq (.region [⟨(.some 28), (.faddr 3 (.t 1)), .none⟩,
   ⟨(.some 29), (.load .false 1 (.t 28) .false), .none⟩,
   ⟨(.some 30), (.len (.t 29)), .none⟩,
   ⟨(.some 31), (.bin .gtr (.t 30) (.c (.d (.int .i64 16)))), .none⟩,
   ⟨(.some 32), (.mov (.t 31)), .none⟩,
   ⟨(.some 33), (.faddr 4 (.t 1)), (.some (32, .false))⟩,
   ⟨(.some 34), (.load .false 1 (.t 33) .false), (.some (32, .false))⟩,
   ⟨(.some 35), (.len (.t 34)), (.some (32, .false))⟩,
   ⟨(.some 36), (.bin .gtr (.t 35) (.c (.d (.int .i64 16)))), (.some (32, .false))⟩,
   ⟨(.some 37), (.pick (.t 32) (.c (.d (.bool .true))) (.t 36)), .none⟩,
   ⟨(.some 38), (.mov (.t 37)), .none⟩,
   ⟨(.some 39), (.faddr 5 (.t 1)), (.some (38, .false))⟩,
   ⟨(.some 40), (.load .false 1 (.t 39) .false), (.some (38, .false))⟩,
   ⟨(.some 41), (.len (.t 40)), (.some (38, .false))⟩,
   ⟨(.some 42), (.bin .gtr (.t 41) (.c (.d (.int .i64 16)))), (.some (38, .false))⟩,
   ⟨(.some 43), (.pick (.t 38) (.c (.d (.bool .true))) (.t 42)), .none⟩])
 c18_7)
 c18_9))
abbrev c18_3 : PCode :=
 (.keep [1] (.seq (.seq (.region [⟨(.some 18), (.faddr 1 (.t 1)), .none⟩,
   ⟨(.some 19), (.load .false 1 (.t 18) .false), .none⟩,
   ⟨(.some 20), (.call0 34 [(.t 19)]), .none⟩,
   ⟨(.some 21), (.not (.t 20)), .none⟩,
   ⟨(.some 22), (.mov (.t 21)), .none⟩,
   ⟨(.some 23), (.faddr 2 (.t 1)), (.some (22, .false))⟩,
   ⟨(.some 24), (.load .false 1 (.t 23) .false), (.some (22, .false))⟩,
   ⟨(.some 25), (.call0 34 [(.t 24)]), (.some (22, .false))⟩,
   ⟨(.some 26), (.not (.t 25)), (.some (22, .false))⟩,
   ⟨(.some 27), (.pick (.t 22) (.c (.d (.bool .true))) (.t 26)), .none⟩])
 c18_4)
 c18_6))
abbrev c18_0 : PCode :=
 (.seq (.seq (.region [⟨(.some 14), (.faddr 0 (.t 1)), .none⟩,
   ⟨(.some 15), (.load .false 1 (.t 14) .false), .none⟩,
   ⟨(.some 16), (.call0 33 [(.t 15)]), .none⟩,
   ⟨(.some 17), (.not (.t 16)), .none⟩])
 c18_1)
 c18_3)
def c18 : PFun := ⟨
 (.seq (.region [⟨(.some 1), (.box 6 (.t 0)), .none⟩,
   ⟨(.some 2), (.mov (.c (.d (.int .i64 0)))), .none⟩])
 c18_0),
 1, 104, [(.tmp 2)]⟩

theorem e34 : entered Tryd.prog 34 = true := by kernel_rfl
theorem k34 : compFun Tryd.prog (fun _ => 0) 34 = some c34.er := by kernel_rfl
theorem e64 : entered Tryd.prog 64 = true := by kernel_rfl
theorem k64 : compFun Tryd.prog (fun _ => 0) 64 = some c64.er := by kernel_rfl
theorem e63 : entered Tryd.prog 63 = true := by kernel_rfl
theorem k63 : compFun Tryd.prog (fun _ => 0) 63 = some c63.er := by kernel_rfl
theorem e38 : entered Tryd.prog 38 = true := by kernel_rfl
theorem k38 : compFun Tryd.prog (fun _ => 0) 38 = some c38.er := by kernel_rfl
theorem e35 : entered Tryd.prog 35 = true := by kernel_rfl
theorem k35 : compFun Tryd.prog (fun _ => 0) 35 = some c35.er := by kernel_rfl
theorem e39 : entered Tryd.prog 39 = true := by kernel_rfl
theorem k39 : compFun Tryd.prog (fun _ => 0) 39 = some c39.er := by kernel_rfl
theorem e18 : entered Tryd.prog 18 = true := by kernel_rfl
theorem k18 : compFun Tryd.prog (fun _ => 0) 18 = some c18.er := by kernel_rfl


theorem C63 (l : List Int) (x : Int) (hl : l.length < 2 ^ 62) : Pure (PCalls Tryd.prog GK) 63 [.d (isD l), .d (.int .i64 x)] (i64 (if x ∈ l then (l.findIdx (fun y => x == y) : Int) else -1)) := by
  intro st; refine pcalls_of k63 e63 (of_decide_eq_true rfl) ?_; dsimp only [c63]; refine pstartL ?_; intro t hL; generalize hQ : pfin _ _ = Q
  refine gor hL ?_; (repeat (clear hL; intro t hL; refine gor hL ?_))
  (apply prangeK hL (l.length) (by omega) (fun k => x ∉ l.take k)); (· exact trimA); (· exact fun _ => rfl)
  · simp
  · intro t hL hI
    rw [List.take_length] at hI
    refine gor hL ?_; (repeat (clear hL; intro t hL; refine gor hL ?_))
    rw [← hQ]
    exact pfin_pure (by rw [if_neg hI]; rfl) hL.le
  · intro k hk t hL hI
    obtain ⟨y, hy, hm⟩ := elem_at hk
    refine pblock ?_
    refine gor hL ?_; (repeat (clear hL; intro t hL; refine gor hL ?_))
    refine pcond_b rfl (fun h1 => ?_) (fun h1 => ?_)
    · obtain rfl : x = y := by simpa using h1
      refine gor hL ?_; (repeat (clear hL; intro t hL; refine gor hL ?_))
      rw [← hQ]
      refine pfin_pure ?_ hL.le
      rw [if_pos hm]
      have : l.findIdx (fun y => x == y) = k := by
        obtain ⟨hk', hy'⟩ := List.getElem?_eq_some_iff.1 hy
        rw [List.findIdx_eq hk']
        refine ⟨by simp [hy'], fun j hj => ?_⟩
        have : l[j] ∈ l.take k := by
          rw [List.mem_take_iff_getElem]
          exact ⟨j, by omega, rfl⟩
        simp only [beq_eq_false_iff_ne]
        intro e
        exact hI (e ▸ this)
      rw [this]; rfl
    · have h1' : x ≠ y := by simpa using h1
      refine gor hL ?_; (repeat (clear hL; intro t hL; refine gor hL ?_))
      refine ⟨hL.pk, ?_, tr2⟩
      rw [take_snoc hy, List.mem_append]
      simp [hI, h1']
theorem C38 (l : List Int) (x : Int) (hl : l.length < 2 ^ 62) : Pure (PCalls Tryd.prog GK) 38 [.d (isD l), .d (.int .i64 x)] (b2 (decide (x ∈ l))) := by
  intro st; refine pcalls_of k38 e38 (of_decide_eq_true rfl) ?_; dsimp only [c38]; refine pstartL ?_; intro t hL; generalize hQ : pfin _ _ = Q
  refine gor hL ?_; (repeat (clear hL; intro t hL; refine gor hL ?_))
  refine po_call rfl (C63 l x hl) (fun _ _ h => False.elim h) ?_
  refine gor hL ?_; (repeat (clear hL; intro t hL; refine gor hL ?_))
  rw [← hQ]
  refine pfin_pure ?_ hL.le
  by_cases h : x ∈ l
  · simp only [h, if_true]
    refine congrArg (fun z => some (b2 z)) ?_
    simp
  · simp only [h, if_false]
    rfl

theorem freshL (s : ByteArray) (all : List ByteArray) (b : Nat) (v : AV) (hs : s.size < 2 ^ 60) (ha : all.length < 2 ^ 40) :
    CL (PCalls Tryd.prog GK) 35 [.d (.str s), ptrAt b] [.box b [v], .vec v (srows all) 1] (fun _ => i64 (freshE s all)) (fun a => [.box b [a], .vec a (srows (if freshE s all = 0 then all ++ [s] else all)) 1]) := by
  refine ⟨Sat.boxv b [v] (fun a => [a]) v _ _ _ _, ?_⟩
  intro st t hL; refine pcalls_of k35 e35 (of_decide_eq_true rfl) ?_; dsimp only [c35]; generalize hQ : pfin _ _ = Q
  have fv := hL.vk v
  obtain ⟨fv_r, fv_w, fv_w1, fv_c, fv_s, fv_d⟩ := id fv
  refine gor hL ?_; (repeat (clear hL; intro t hL; refine gor hL ?_))
  refine po_call rfl (C33 s (Nat.lt_of_lt_of_le hs (by decide))) (fun _ _ h => False.elim h) ?_
  refine gor hL ?_; (repeat (clear hL; intro t hL; refine gor hL ?_))
  refine pcond_b rfl (fun h => ?_) (fun h => ?_)
  · have he : freshE s all = 8 := by rw [freshE, if_pos (by simpa using h)]
    refine gor hL ?_; (repeat (clear hL; intro t hL; refine gor hL ?_))
    rw [← hQ]
    rw [he]
    exact pfinK v rfl (.inl rfl) hL
  refine gor hL ?_; (repeat (clear hL; intro t hL; refine gor hL ?_))
  refine po_c0 (C36 all s (by omega)) ?_
  refine gor hL ?_; (repeat (clear hL; intro t hL; refine gor hL ?_))
  refine pcond_b rfl (fun h1 => ?_) (fun h1 => ?_)
  · have he : freshE s all = 9 := by rw [freshE, if_neg (by simpa using h), if_pos h1]
    refine gor hL ?_; (repeat (clear hL; intro t hL; refine gor hL ?_))
    rw [← hQ]
    rw [he]
    exact pfinK v rfl (.inl rfl) hL
  have h0 : freshE s all = 0 := by rw [freshE, if_neg (by simpa using h), if_neg (by rw [h1]; simp)]
  refine gor hL ?_; (repeat (clear hL; intro t hL; refine gor hL ?_))
  refine po_appA hL srows_one ?_ ?_; (· rw [len_srows]; simp; omega); clear hL; intro v' t fv' hL; obtain ⟨fv'_r, fv'_w, fv'_w1, fv'_c, fv'_s, fv'_d⟩ := id fv'
  rw [show srows all ++ [[Dat.str s]] = srows (all ++ [s]) from srows_app all [s]] at hL
  refine gor hL ?_; (repeat (clear hL; intro t hL; refine gor hL ?_))
  rw [← hQ]
  rw [h0]
  exact pfinK v' rfl (.inl rfl) hL

theorem C34 (n : Int) : Pure (PCalls Tryd.prog GK) 34 [.d (.int .i64 n)] (b2 (inNum n)) := by
  intro st; refine pcalls_of k34 e34 (of_decide_eq_true rfl) ?_; dsimp only [c34]; refine pstartL ?_; intro t hL; generalize hQ : pfin _ _ = Q
  refine gor hL ?_; (repeat (clear hL; intro t hL; refine gor hL ?_))
  rw [← hQ]
  exact pfin_pure rfl hL.le

theorem wholeL (d : Nat) (types : List Al) (x : KT) (left : Int) (a0 a1 a2 a4 a5 : Dat) (p : Nat) (hd : d ≤ 20) (hT : fitA types) (hx : x.fit) (hl : 0 ≤ left ∧ left < 2 ^ 40) :
    CL (PCalls Tryd.prog GK) 75 [.agg [.d a0, .d a1, .d a2, .d (alRows types), .d a4, .d a5], x.av, .d (.int .i64 (d : Nat)), ptrAt p] [.box p [i64 left]] (fun _ : Unit => .tup [(wholeM d types x left).1.1.av, i64 (wholeM d types x left).1.2]) (fun _ => [.box p [i64 (wholeM d types x left).2]]) := by
  refine ⟨fun N => ⟨(), by simp [Item.blk], by simp [Item.blk]⟩, fun st t hL => ?_⟩
  refine (C75 d types x left a0 a1 a2 a4 a5 p t hd hT hx hl (hL.bx Rem.head)).mono ?_
  rintro r st' ⟨rfl, rfl⟩
  exact ⟨(), rfl, hL.store _⟩
theorem C64 (types : List Al) (x : KT) (a0 a1 a2 a4 a5 : Dat) (hT : fitA types) (hx : x.fit) : Pure (PCalls Tryd.prog GK) 64 [.agg [.d a0, .d a1, .d a2, .d (alRows types), .d a4, .d a5], x.av] (.tup [(wholeM 20 types x 200).1.1.av, i64 (wholeM 20 types x 200).1.2]) := by
  rw [KT.av_eq x]
  intro st; refine pcalls_of k64 e64 (of_decide_eq_true rfl) ?_; dsimp only [c64]; refine pstartL ?_; intro t hL; generalize hQ : pfin _ _ = Q
  (refine gor hL ?_; (repeat (clear hL; intro t hL; refine gor hL ?_))); refine po_boxA hL ?_; clear hL; intro p1 t hL
  (refine gor hL ?_; (repeat (clear hL; intro t hL; refine gor hL ?_))); refine po_boxA hL ?_; clear hL; intro p2 t hL
  (refine gor hL ?_; (repeat (clear hL; intro t hL; refine gor hL ?_))); (with_reducible refine po_allocL hL rfl ?_); clear hL; intro p3 t hL
  (refine gor hL ?_; (repeat (clear hL; intro t hL; refine gor hL ?_))); (with_reducible refine po_allocL hL rfl ?_); clear hL; intro p4 t hL
  refine gor hL ?_; (repeat (clear hL; intro t hL; refine gor hL ?_))
  refine po_callK hL (wholeL 20 types x 200 a0 a1 a2 a4 a5 p4 (by decide) hT hx (by decide)) ?_
  rintro ⟨⟩ t hL
  generalize wholeM 20 types x 200 = W at *
  obtain ⟨⟨y, e⟩, l'⟩ := W
  simp only [KT.av_eq y]
  refine gor hL ?_; (repeat (clear hL; intro t hL; refine gor hL ?_))
  rw [← hQ]
  refine pfin_pure (pret_two (v1 := y.av) ?_ rfl) hL.le
  rw [KT.av_eq y]
  exact pcellA hL
theorem procsL (T : TB) (hf : T.fit) (hmany : T.procs.length ≤ 16) (all : List ByteArray) (kn : List ByteArray) (b : Nat) (v : AV) (ha : all.length < 2 ^ 39) (hk : kn.length < 2 ^ 40) :
    CL (PCalls Tryd.prog GK) 39 [T.av, .d (.fn 35 [] [.ptr b 0]), .d (strs kn)] [.box b [v], .vec v (srows all) 1] (fun _ => i64 (procsE T.types kn T.procs all [])) (fun a => [.box b [a]]) := by
  refine ⟨fun N => ⟨v, by simp [Item.blk], by simp⟩, ?_⟩
  have hlenI : ∀ l : List Int, ∀ r ∈ l.map fun n => [Dat.int .i64 n], r.length = 1 := fun l r hr => by
    obtain ⟨i, _, rfl⟩ := List.mem_map.1 hr; rfl
  intro st t hL; refine pcalls_of k39 e39 (of_decide_eq_true rfl) ?_; dsimp only [c39]; generalize hQ : pfin _ _ = Q
  (refine gor hL ?_; (repeat (clear hL; intro t hL; refine gor hL ?_))); refine po_boxA hL ?_; clear hL; intro p3 t hL
  refine gor hL ?_; (repeat (clear hL; intro t hL; refine gor hL ?_))
  (apply prangeA (T.procs.length) (by omega) (fun a z => put z (some 7) a) (fun k a t => ∃ w, Lay st [.box b [w], .vec w (srows (all ++ (T.procs.take k).map Pc.name)) 1, .vec a ((T.procs.take k).map Pc.number |>.map fun n => [Dat.int .i64 n]) 1, .box p3 [.d (.str T.name), .d (.int .i64 T.number), .d (.int .i64 T.version), .d (.sl (T.types.map Al.row)), .d (.sl (T.faults.map Fl.row)), .d (.sl (T.procs.map Pc.row))]] t ∧ procsE T.types kn T.procs all [] = procsE T.types kn (T.procs.drop k) (all ++ (T.procs.take k).map Pc.name) ((T.procs.take k).map Pc.number)) (.full [])); (· exact trimA); (· exact fun _ _ => rfl)
  · refine ⟨v, ?_, by simp⟩
    simp only [List.take_zero, List.map_nil, List.append_nil]
    exact (hL.full [] 1).pk
  · rintro vN t ⟨w, hL, hI⟩
    rw [List.drop_length] at hI
    refine gor hL ?_; (repeat (clear hL; intro t hL; refine gor hL ?_))
    rw [← hQ]
    exact pfinK w rfl (.inl (by rw [hI]; rfl)) hL
  · rintro k hk vN t ⟨w, hL, hI⟩
    obtain ⟨y, hy, hm⟩ := elem_at hk
    rw [drop_at hy] at hI
    simp only [procsE] at hI
    have hfits := hf.pfit y hm
    have hnum := map_take_snoc Pc.number hy
    have hnam : all ++ (T.procs.take (k + 1)).map Pc.name = (all ++ (T.procs.take k).map Pc.name) ++ [y.name] := by rw [map_take_snoc Pc.name hy, List.append_assoc]
    have hla : (all ++ (T.procs.take k).map Pc.name).length < 2 ^ 40 := by simp; omega
    have hln : ((T.procs.take k).map Pc.number).length < 17 := by simp; omega
    rw [hnum, hnam]
    generalize all ++ (T.procs.take k).map Pc.name = ak at *
    generalize (T.procs.take k).map Pc.number = nk at *
    refine pblock ?_
    (refine gor hL ?_; (repeat (clear hL; intro t hL; refine gor hL ?_))); (with_reducible refine po_allocL hL rfl ?_); clear hL; intro p9 t hL
    refine gor hL ?_; (repeat (clear hL; intro t hL; refine gor hL ?_))
    refine po_callvK hL (freshL y.name ak b w (hf.pnames y hm) hla) ?_
    clear hL; intro w' t hL
    refine gor hL ?_; (repeat (clear hL; intro t hL; refine gor hL ?_))
    refine pcond_b rfl (fun h1 => ?_) (fun h1 => ?_)
    · have h1' : freshE y.name ak ≠ 0 := by simpa using h1
      rw [if_pos h1'] at hI
      refine gor hL ?_; (repeat (clear hL; intro t hL; refine gor hL ?_))
      rw [← hQ]
      exact pfinK w' rfl (.inl (by rw [hI]; rfl)) hL
    have h1' : freshE y.name ak = 0 := by simpa using h1
    rw [if_neg (by simp [h1'])] at hI
    rw [if_pos h1'] at hL
    refine gor hL ?_; (repeat (clear hL; intro t hL; refine gor hL ?_))
    refine po_call rfl (C34 y.number) (fun _ _ h => False.elim h) ?_
    refine gor hL ?_; (repeat (clear hL; intro t hL; refine gor hL ?_))
    refine pcond_b rfl (fun h2 => ?_) (fun h2 => ?_)
    · have h2' : numsE y = true := by rw [← h2, numsE]
      rw [if_pos h2'] at hI
      refine gor hL ?_; (repeat (clear hL; intro t hL; refine gor hL ?_))
      rw [← hQ]
      exact pfinK w' rfl (.inl (by rw [hI]; rfl)) hL
    have h2' : numsE y = false := by rw [← h2, numsE]
    rw [if_neg (by simp [h2'])] at hI
    have fN := hL.vk vN
    obtain ⟨fN_r, fN_w, fN_w1, fN_c, fN_s, fN_d⟩ := id fN
    refine gor hL ?_; (repeat (clear hL; intro t hL; refine gor hL ?_))
    refine po_c0 (C38 nk y.number (by omega)) ?_
    refine gor hL ?_; (repeat (clear hL; intro t hL; refine gor hL ?_))
    refine pcond_b rfl (fun h3 => ?_) (fun h3 => ?_)
    · have h3' : y.number ∈ nk := by simpa using h3
      rw [if_pos h3'] at hI
      refine gor hL ?_; (repeat (clear hL; intro t hL; refine gor hL ?_))
      rw [← hQ]
      exact pfinK w' rfl (.inl (by rw [hI]; rfl)) hL
    have h3' : y.number ∉ nk := by simpa using h3
    rw [if_neg h3'] at hI
    refine gor hL ?_; (repeat (clear hL; intro t hL; refine gor hL ?_))
    refine po_appA hL (hlenI _) ?_ ?_; (· rw [List.length_map]; simp; omega); clear hL; intro vN' t fN' hL; obtain ⟨fN'_r, fN'_w, fN'_w1, fN'_c, fN'_s, fN'_d⟩ := id fN'
    rw [show (nk.map fun n => [Dat.int .i64 n]) ++ [[Dat.int .i64 y.number]] = (nk ++ [y.number]).map fun n => [Dat.int .i64 n] by rw [List.map_append]; rfl] at hL
    refine gor hL ?_; (repeat (clear hL; intro t hL; refine gor hL ?_))
    have hxs : [[Dat.int .u8 y.takes.kind, .int .i64 y.takes.most, .sl (y.takes.names.map fun s => [.str s]), .sl (y.takes.of.map KT.row)], [.int .u8 y.answers.kind, .int .i64 y.answers.most, .sl (y.answers.names.map fun s => [.str s]), .sl (y.answers.of.map KT.row)]] = [y.takes, y.answers].map KT.row := by simp [KT.row_eq, KT.cs]
    refine gnm ?_; rw [hxs]
    have hpf : ∀ x ∈ [y.takes, y.answers], x.fit := fun x hx => by
      simp at hx
      rcases hx with rfl | rfl
      · exact hfits.1
      · exact hfits.2
    generalize hpl : [y.takes, y.answers] = pl at *
    have hpl2 : pl.length = 2 := by rw [← hpl]; rfl
    refine gnm ?_; rw [show ((pl.map KT.row).length : Int) = 2 by rw [List.length_map, hpl2]; rfl]
    (apply prangeK hL (2) (by omega) (fun j => partsE T.types kn pl = partsE T.types kn (pl.drop j))); (· exact trimA); (· exact fun _ => rfl)
    · rfl
    · intro t hL hI2
      rw [← hpl2, List.drop_length] at hI2
      rw [hI2, if_neg (by simp [partsE])] at hI
      refine gor hL ?_; (repeat (clear hL; intro t hL; refine gor hL ?_))
      exact ⟨vN', ⟨w', hL.pk, hI⟩, tr2⟩
    · intro j hj t hL hI2
      obtain ⟨x, hx, hxm⟩ := elem_at (l := pl) (k := j) (by omega)
      rw [drop_at hx] at hI2
      simp only [partsE] at hI2
      refine pblock ?_
      (refine gor hL ?_; (repeat (clear hL; intro t hL; refine gor hL ?_))); (with_reducible refine po_allocL hL rfl ?_); clear hL; intro p12 t hL
      refine gor hL ?_; (repeat (clear hL; intro t hL; refine gor hL ?_))
      refine po_c0 (C37 x 5 kn (hpf x hxm) (by omega) (by decide)) ?_
      generalize x.check 5 kn = e1 at *
      refine gor hL ?_; (repeat (clear hL; intro t hL; refine gor hL ?_))
      refine pcond_b rfl (fun h4 => ?_) (fun h4 => ?_)
      · have h4' : e1 ≠ 0 := by simpa using h4
        rw [if_pos h4'] at hI2
        rw [hI2, if_pos h4'] at hI
        refine gor hL ?_; (repeat (clear hL; intro t hL; refine gor hL ?_))
        rw [← hQ]
        exact pfinK w' rfl (.inl (by rw [hI]; rfl)) hL
      have h4' : e1 = 0 := by simpa using h4
      rw [if_neg (by simp [h4'])] at hI2
      refine gor hL ?_; (repeat (clear hL; intro t hL; refine gor hL ?_))
      refine po_c0 (C64 T.types x (.str T.name) (.int .i64 T.number) (.int .i64 T.version) (.sl (T.faults.map Fl.row)) (.sl (T.procs.map Pc.row)) hf.types (hpf x hxm)) ?_
      generalize wholeM 20 T.types x 200 = W at *
      obtain ⟨⟨z, e2⟩, l'⟩ := W
      simp only [KT.av_eq z]
      simp only at hI2
      (refine gor hL ?_; (repeat (clear hL; intro t hL; refine gor hL ?_))); (with_reducible refine po_allocL hL rfl ?_); clear hL; intro p14 t hL
      refine gor hL ?_; (repeat (clear hL; intro t hL; refine gor hL ?_))
      refine pcond_b rfl (fun h5 => ?_) (fun h5 => ?_)
      · have h5' : e2 ≠ 0 := by simpa using h5
        rw [if_pos h5'] at hI2
        rw [hI2, if_pos h5'] at hI
        refine gor hL ?_; (repeat (clear hL; intro t hL; refine gor hL ?_))
        rw [← hQ]
        exact pfinK w' rfl (.inl (by rw [hI]; rfl)) hL
      have h5' : e2 = 0 := by simpa using h5
      rw [if_neg (by simp [h5'])] at hI2
      refine gor hL ?_; (repeat (clear hL; intro t hL; refine gor hL ?_))
      refine ⟨hL.pk, ?_, tr2⟩
      exact hI2

theorem C18 (T : TB) (hf : T.fit) : Pure (PCalls Tryd.prog GK) 18 [T.av] (i64 T.check) := by
  have hlenI : ∀ l : List Int, ∀ r ∈ l.map fun n => [Dat.int .i64 n], r.length = 1 := fun l r hr => by
    obtain ⟨i, _, rfl⟩ := List.mem_map.1 hr; rfl
  have htl := hf.types.1
  have hfl := hf.faults
  have hpl := hf.procs
  intro st; refine pcalls_of k18 e18 (of_decide_eq_true rfl) ?_; dsimp only [c18]; refine pstartL ?_; intro t hL; generalize hQ : pfin _ _ = Q
  (refine gor hL ?_; (repeat (clear hL; intro t hL; refine gor hL ?_))); refine po_boxA hL ?_; clear hL; intro p1 t hL
  refine gor hL ?_; (repeat (clear hL; intro t hL; refine gor hL ?_))
  refine po_call rfl (C33 T.name (Nat.lt_of_lt_of_le hf.name (by decide))) (fun _ _ h => False.elim h) ?_
  refine gor hL ?_; (repeat (clear hL; intro t hL; refine gor hL ?_))
  refine pcond_b rfl (fun h1 => ?_) (fun h1 => ?_)
  · refine gor hL ?_; (repeat (clear hL; intro t hL; refine gor hL ?_))
    rw [← hQ]
    exact pfin_pure (by rw [TB.check, if_pos (by simpa using h1)]; rfl) hL.le
  have h1' : ¬ isName T.name = false := by simpa using h1
  refine gor hL ?_; (repeat (clear hL; intro t hL; refine gor hL ?_))
  refine po_call rfl (C34 T.number) (fun _ _ h => False.elim h) ?_
  refine gor hL ?_; (repeat (clear hL; intro t hL; refine gor hL ?_))
  ((with_reducible apply po_g); (· exact gwt); (· (intro hw; refine does_call0 ?_ (C34 T.version); exact gargs hw)))
  refine gor hL ?_; (repeat (clear hL; intro t hL; refine gor hL ?_))
  refine pcond_b rfl (fun h2 => ?_) (fun h2 => ?_)
  · refine gor hL ?_; (repeat (clear hL; intro t hL; refine gor hL ?_))
    rw [← hQ]
    exact pfin_pure (by rw [TB.check, if_neg h1', if_pos (by simp at h2 ⊢; intro h; rcases h2 with h2 | h2; (rw [h] at h2; cases h2); exact h2)]; rfl) hL.le
  have h2' : ¬ (inNum T.number && inNum T.version) = false := by simp at h2 ⊢; exact h2
  refine gor hL ?_; (repeat (clear hL; intro t hL; refine gor hL ?_))
  refine pcond_b rfl (fun h3 => ?_) (fun h3 => ?_)
  · refine gor hL ?_; (repeat (clear hL; intro t hL; refine gor hL ?_))
    rw [← hQ]
    exact pfin_pure (by rw [TB.check, if_neg h1', if_neg h2', if_pos (by simp at h3; omega)]; rfl) hL.le
  have h3' : ¬ (T.types.length > 16 ∨ T.faults.length > 16 ∨ T.procs.length > 16) := by simp at h3; omega
  have hcheck : T.check = if typesE T.types [] ≠ 0 then typesE T.types [] else if faultsE T.faults T.names [] ≠ 0 then faultsE T.faults T.names [] else procsE T.types T.names T.procs (T.names ++ T.faults.map Fl.name) [] := by
    rw [TB.check, if_neg h1', if_neg h2', if_neg h3']
  clear h1 h2 h3
  (refine gor hL ?_; (repeat (clear hL; intro t hL; refine gor hL ?_))); (with_reducible refine po_allocL hL rfl ?_); clear hL; intro p4 t hL
  refine gor hL ?_; (repeat (clear hL; intro t hL; refine gor hL ?_))
  (apply prangeA (T.types.length) (by omega) (fun a z => put z (some 3) a) (fun k a t => ∃ w, Lay st [.box p4 [w], .vec w (srows ((T.types.take k).map Al.name)) 1, .vec a (srows ((T.types.take k).map Al.name)) 1, .box p1 [.d (.str T.name), .d (.int .i64 T.number), .d (.int .i64 T.version), .d (.sl (T.types.map Al.row)), .d (.sl (T.faults.map Fl.row)), .d (.sl (T.procs.map Pc.row))]] t ∧ typesE T.types [] = typesE (T.types.drop k) ((T.types.take k).map Al.name)) (.full [])); (· exact trimA); (· exact fun _ _ => rfl)
  · exact ⟨.full [], ((hL.full [] 1).full [] 1).pk, rfl⟩
  · rintro vK t ⟨w, hL, hI⟩
    rw [List.take_length] at hL
    rw [List.drop_length] at hI
    rw [hI] at hcheck
    rw [if_neg (by simp [typesE])] at hcheck
    refine gor hL ?_; (repeat (clear hL; intro t hL; refine gor hL ?_))
    rw [show T.types.map Al.name = T.names from rfl] at hL
    have htn : T.names.length < 17 := by simp [TB.names]; omega
    generalize htnn : T.names = tn at *
    (apply prangeA (T.faults.length) (by omega) (fun a z => put z (some 10) a) (fun k a t => ∃ w, Lay st [.box p4 [w], .vec w (srows (tn ++ (T.faults.take k).map Fl.name)) 1, .vec vK (srows tn) 1, .vec a (((T.faults.take k).map Fl.number).map fun n => [Dat.int .i64 n]) 1, .box p1 [.d (.str T.name), .d (.int .i64 T.number), .d (.int .i64 T.version), .d (.sl (T.types.map Al.row)), .d (.sl (T.faults.map Fl.row)), .d (.sl (T.procs.map Pc.row))]] t ∧ faultsE T.faults tn [] = faultsE (T.faults.drop k) (tn ++ (T.faults.take k).map Fl.name) ((T.faults.take k).map Fl.number)) (.full [])); (· exact trimA); (· exact fun _ _ => rfl)
    · refine ⟨w, ?_, by simp⟩
      simp only [List.take_zero, List.map_nil, List.append_nil]
      exact (hL.full [] 1).pk
    · rintro vN t ⟨w, hL, hI⟩
      rw [List.take_length] at hL
      rw [List.drop_length] at hI
      rw [hI, if_neg (by simp [faultsE])] at hcheck
      have fK := hL.vk vK
      obtain ⟨fK_r, fK_w, fK_w1, fK_c, fK_s, fK_d⟩ := id fK
      refine gor hL ?_; (repeat (clear hL; intro t hL; refine gor hL ?_))
      refine po_callK hL (procsL T hf (by omega) (tn ++ T.faults.map Fl.name) tn p4 w (by simp; omega) (by omega)) ?_
      rintro a t hL
      refine gor hL ?_; (repeat (clear hL; intro t hL; refine gor hL ?_))
      rw [← hQ]
      exact pfin_pure (by rw [hcheck]; rfl) hL.le
    · rintro k hk vN t ⟨w, hL, hI⟩
      obtain ⟨y, hy, hm⟩ := elem_at hk
      rw [drop_at hy] at hI
      simp only [faultsE] at hI
      have hnam : tn ++ (T.faults.take (k + 1)).map Fl.name = (tn ++ (T.faults.take k).map Fl.name) ++ [y.name] := by rw [map_take_snoc Fl.name hy, List.append_assoc]
      have hla : (tn ++ (T.faults.take k).map Fl.name).length < 2 ^ 40 := by simp; omega
      have hln : ((T.faults.take k).map Fl.number).length < 17 := by simp; omega
      rw [map_take_snoc Fl.number hy, hnam]
      generalize tn ++ (T.faults.take k).map Fl.name = ak at *
      generalize (T.faults.take k).map Fl.number = nk at *
      refine pblock ?_
      (refine gor hL ?_; (repeat (clear hL; intro t hL; refine gor hL ?_))); (with_reducible refine po_allocL hL rfl ?_); clear hL; intro p12 t hL
      refine gor hL ?_; (repeat (clear hL; intro t hL; refine gor hL ?_))
      refine po_callvK hL (freshL y.name ak p4 w (hf.fnames y hm) hla) ?_
      clear hL; intro w' t hL
      refine gor hL ?_; (repeat (clear hL; intro t hL; refine gor hL ?_))
      refine pcond_b rfl (fun h1 => ?_) (fun h1 => ?_)
      · have h1' : freshE y.name ak ≠ 0 := by simpa using h1
        rw [if_pos h1'] at hI
        rw [hI, if_pos h1'] at hcheck
        refine gor hL ?_; (repeat (clear hL; intro t hL; refine gor hL ?_))
        rw [← hQ]
        exact pfin_pure (by rw [hcheck]; rfl) hL.le
      have h1' : freshE y.name ak = 0 := by simpa using h1
      rw [if_neg (by simp [h1'])] at hI
      rw [if_pos h1'] at hL
      refine gor hL ?_; (repeat (clear hL; intro t hL; refine gor hL ?_))
      refine po_call rfl (C34 y.number) (fun _ _ h => False.elim h) ?_
      refine gor hL ?_; (repeat (clear hL; intro t hL; refine gor hL ?_))
      refine pcond_b rfl (fun h2 => ?_) (fun h2 => ?_)
      · have h2' : inNum y.number = false := by simpa using h2
        rw [if_pos h2'] at hI
        rw [hI, if_pos (by decide)] at hcheck
        refine gor hL ?_; (repeat (clear hL; intro t hL; refine gor hL ?_))
        rw [← hQ]
        exact pfin_pure (by rw [hcheck]; rfl) hL.le
      have h2' : inNum y.number = true := by simpa using h2
      rw [if_neg (by simp [h2'])] at hI
      have fN := hL.vk vN
      obtain ⟨fN_r, fN_w, fN_w1, fN_c, fN_s, fN_d⟩ := id fN
      refine gor hL ?_; (repeat (clear hL; intro t hL; refine gor hL ?_))
      refine po_c0 (C38 nk y.number (by omega)) ?_
      refine gor hL ?_; (repeat (clear hL; intro t hL; refine gor hL ?_))
      refine pcond_b rfl (fun h3 => ?_) (fun h3 => ?_)
      · have h3' : y.number ∈ nk := by simpa using h3
        rw [if_pos h3'] at hI
        rw [hI, if_pos (by decide)] at hcheck
        refine gor hL ?_; (repeat (clear hL; intro t hL; refine gor hL ?_))
        rw [← hQ]
        exact pfin_pure (by rw [hcheck]; rfl) hL.le
      have h3' : y.number ∉ nk := by simpa using h3
      rw [if_neg h3'] at hI
      refine gor hL ?_; (repeat (clear hL; intro t hL; refine gor hL ?_))
      refine po_appA hL (hlenI _) ?_ ?_; (· rw [List.length_map]; simp; omega); clear hL; intro vN' t fN' hL; obtain ⟨fN'_r, fN'_w, fN'_w1, fN'_c, fN'_s, fN'_d⟩ := id fN'
      rw [show (nk.map fun n => [Dat.int .i64 n]) ++ [[Dat.int .i64 y.number]] = (nk ++ [y.number]).map fun n => [Dat.int .i64 n] by rw [List.map_append]; rfl] at hL
      refine gor hL ?_; (repeat (clear hL; intro t hL; refine gor hL ?_))
      exact ⟨vN', ⟨w', hL.pk, hI⟩, tr2⟩
  · rintro k hk vK t ⟨w, hL, hI⟩
    obtain ⟨y, hy, hm⟩ := elem_at hk
    rw [drop_at hy] at hI
    simp only [typesE] at hI
    have hyf := hf.types.2 y hm
    rw [map_take_snoc Al.name hy]
    have hlk : ((T.types.take k).map Al.name).length < 17 := by simp; omega
    generalize (T.types.take k).map Al.name = nk at *
    refine pblock ?_
    (refine gor hL ?_; (repeat (clear hL; intro t hL; refine gor hL ?_))); (with_reducible refine po_allocL hL rfl ?_); clear hL; intro p7 t hL
    refine gor hL ?_; (repeat (clear hL; intro t hL; refine gor hL ?_))
    refine po_callvK hL (freshL y.name nk p4 w (hf.tnames y hm) (by omega)) ?_
    clear hL; intro w' t hL
    refine gor hL ?_; (repeat (clear hL; intro t hL; refine gor hL ?_))
    refine pcond_b rfl (fun h1 => ?_) (fun h1 => ?_)
    · have h1' : freshE y.name nk ≠ 0 := by simpa using h1
      rw [if_pos h1'] at hI
      rw [hI, if_pos h1'] at hcheck
      refine gor hL ?_; (repeat (clear hL; intro t hL; refine gor hL ?_))
      rw [← hQ]
      exact pfin_pure (by rw [hcheck]; rfl) hL.le
    have h1' : freshE y.name nk = 0 := by simpa using h1
    rw [if_neg (by simp [h1'])] at hI
    rw [if_pos h1'] at hL
    have fK := hL.vk vK
    obtain ⟨fK_r, fK_w, fK_w1, fK_c, fK_s, fK_d⟩ := id fK
    refine gor hL ?_; (repeat (clear hL; intro t hL; refine gor hL ?_))
    refine po_c0 (C37 y.ty 5 nk hyf (by omega) (by decide)) ?_
    generalize y.ty.check 5 nk = e1 at *
    refine gor hL ?_; (repeat (clear hL; intro t hL; refine gor hL ?_))
    refine pcond_b rfl (fun h4 => ?_) (fun h4 => ?_)
    · have h4' : e1 ≠ 0 := by simpa using h4
      rw [if_pos h4'] at hI
      rw [hI, if_pos h4'] at hcheck
      refine gor hL ?_; (repeat (clear hL; intro t hL; refine gor hL ?_))
      rw [← hQ]
      exact pfin_pure (by rw [hcheck]; rfl) hL.le
    have h4' : e1 = 0 := by simpa using h4
    rw [if_neg (by simp [h4'])] at hI
    refine gor hL ?_; (repeat (clear hL; intro t hL; refine gor hL ?_))
    refine po_appA hL srows_one ?_ ?_; (· rw [len_srows]; simp; omega); clear hL; intro vK' t fK' hL; obtain ⟨fK'_r, fK'_w, fK'_w1, fK'_c, fK'_s, fK'_d⟩ := id fK'
    rw [show srows nk ++ [[Dat.str y.name]] = srows (nk ++ [y.name]) from srows_app nk [y.name]] at hL
    refine gor hL ?_; (repeat (clear hL; intro t hL; refine gor hL ?_))
    exact ⟨vK', ⟨w', hL.pk, hI⟩, tr2⟩
end Go.Pv
