/- Functions of the program, by value. No condition. -/
import Derived.Test.YtmcdhendjlijhaaV1
namespace Go.Pv
open Go.Proofs
set_option maxRecDepth 100000
set_option maxHeartbeats 8000000

/-- (prompter/prog.Program).body -/
abbrev c30_2 : PCode :=
 (.seq (.region [⟨(.some 4), (.mov (.c (.d (.int .i64 0)))), .none⟩])
 .ret)
abbrev c30_1 : PCode :=
 (.cond (.t 10)
  c30_2
  .skip)
abbrev c30_3 : PCode :=
 (.keep [0, 1] (.seq (.region [⟨(.some 11), (.mov (.t 1)), .none⟩,
   ⟨(.some 12), (.bin .add (.t 11) (.c (.d (.int .i64 1)))), .none⟩,
   ⟨(.some 13), (.mov (.t 0)), .none⟩,
   ⟨(.some 14), (.mov (.t 1)), .none⟩,
   ⟨(.some 15), (.iaddr 5 (.t 13) (.t 14)), .none⟩,
   ⟨(.some 16), (.faddr 3 (.t 15)), .none⟩,
   ⟨(.some 17), (.load .false 1 (.t 16) .false), .none⟩,
   ⟨(.some 18), (.cvt .i64 (.t 17)), .none⟩,
   ⟨(.some 19), (.bin .add (.t 12) (.t 18)), .none⟩,
   ⟨(.some 4), (.mov (.t 19)), .none⟩])
 .ret))
abbrev c30_0 : PCode :=
 (.seq (.seq (.region [⟨(.some 5), (.mov (.t 0)), .none⟩,
   ⟨(.some 6), (.mov (.t 1)), .none⟩,
   ⟨(.some 7), (.iaddr 5 (.t 5) (.t 6)), .none⟩,
   ⟨(.some 8), (.faddr 0 (.t 7)), .none⟩,
   ⟨(.some 9), (.load .false 1 (.t 8) .false), .none⟩,
   ⟨(.some 10), (.bin .neq (.t 9) (.c (.d (.int .u8 9)))), .none⟩])
 c30_1)
 c30_3)
def c30 : PFun := ⟨
 (.seq (.region [⟨(.some 4), (.mov (.c (.d (.int .i64 0)))), .none⟩])
 c30_0),
 2, 20, [(.tmp 4)]⟩

/-- (prompter/prog.Program).within -/
abbrev c29_6 : PCode :=
 (.seq (.region [⟨(.some 20), (.mov (.t 6)), .none⟩,
   ⟨(.some 4), (.mov (.t 20)), .none⟩])
 .ret)
abbrev c29_5 : PCode :=
 (.cond (.t 19)
  c29_6
  .skip)
abbrev c29_4 : PCode :=
 (.keep [0, 1, 6, 10, 11] (.seq (.region [⟨(.some 17), (.mov (.t 6)), .none⟩,
   ⟨(.some 18), (.mov (.t 1)), .none⟩,
   ⟨(.some 19), (.bin .gtr (.t 17) (.t 18)), .none⟩])
 c29_5))
abbrev c29_3 : PCode :=
 (.seq (.region [⟨(.some 14), (.mov (.t 0)), .none⟩,
   ⟨(.some 15), (.mov (.t 5)), .none⟩,
   ⟨(.some 16), (.call0 30 [(.t 14), (.t 15)]), .none⟩,
   ⟨(.some 6), (.mov (.t 16)), .none⟩])
 c29_4)
abbrev c29_2 : PCode :=
 (.block 1 (.seq (.region [⟨(.some 13), (.mov (.t 11)), .none⟩,
   ⟨(.some 5), (.mov (.t 13)), .none⟩])
 c29_3))
abbrev c29_1 : PCode :=
 (.keep [0, 1, 10, 11] (.block 0 (.loop (.some [11, 0, 1, 10]) (.seq (.region [⟨(.some 12), (.bin .lss (.t 11) (.t 10)), .none⟩])
 (.seq (.cond (.t 12)
  .skip
  (.exit 0))
 (.seq c29_2
 (.region [⟨(.some 21), (.bin .add (.t 11) (.c (.d (.int .i64 1)))), .none⟩,
   ⟨(.some 11), (.mov (.t 21)), .none⟩])))))))
abbrev c29_7 : PCode :=
 (.seq (.region [⟨(.some 4), (.mov (.c (.d (.int .i64 0)))), .none⟩])
 .ret)
abbrev c29_0 : PCode :=
 (.seq (.seq (.region [⟨(.some 7), (.mov (.t 1)), .none⟩,
   ⟨(.some 8), (.mov (.t 0)), .none⟩,
   ⟨(.some 9), (.len (.t 8)), .none⟩,
   ⟨(.some 10), (.minmax .false (.t 7) [(.t 9)]), .none⟩,
   ⟨(.some 11), (.mov (.c (.d (.int .i64 0)))), .none⟩])
 c29_1)
 c29_7)
def c29 : PFun := ⟨
 (.seq (.region [⟨(.some 4), (.mov (.c (.d (.int .i64 0)))), .none⟩])
 c29_0),
 2, 22, [(.tmp 4)]⟩

/-- (prompter/prog.Program).Fuel -/
abbrev c31_6 : PCode :=
 (.region [⟨(.some 17), (.mov (.t 3)), .none⟩,
   ⟨(.some 18), (.faddr 3 (.t 5)), .none⟩,
   ⟨(.some 19), (.load .false 1 (.t 18) .false), .none⟩,
   ⟨(.some 20), (.cvt .i64 (.t 19)), .none⟩,
   ⟨(.some 21), (.faddr 4 (.t 5)), .none⟩,
   ⟨(.some 22), (.load .false 1 (.t 21) .false), .none⟩,
   ⟨(.some 23), (.cvt .i64 (.t 22)), .none⟩,
   ⟨(.some 24), (.minmax .true (.t 23) [(.c (.d (.int .i64 1)))]), .none⟩,
   ⟨(.some 25), (.bin .sub (.t 24) (.c (.d (.int .i64 1)))), .none⟩,
   ⟨(.some 26), (.bin .mul (.t 20) (.t 25)), .none⟩,
   ⟨(.some 27), (.bin .add (.t 17) (.t 26)), .none⟩,
   ⟨(.some 3), (.mov (.t 27)), .none⟩])
abbrev c31_5 : PCode :=
 (.cond (.t 16)
  c31_6
  .skip)
abbrev c31_4 : PCode :=
 (.keep [3, 5, 8, 9, 10] (.seq (.region [⟨(.some 14), (.faddr 0 (.t 5)), .none⟩,
   ⟨(.some 15), (.load .false 1 (.t 14) .false), .none⟩,
   ⟨(.some 16), (.bin .eql (.t 15) (.c (.d (.int .u8 9)))), .none⟩])
 c31_5))
abbrev c31_3 : PCode :=
 (.block 1 (.seq (.region [⟨(.some 12), (.iaddr 5 (.t 8) (.t 10)), .none⟩,
   ⟨(.some 13), (.load .true 5 (.t 12) .false), .none⟩,
   ⟨(.some 5), (.alloc [(.d (.int .u8 0)), (.d (.int .u8 0)), (.d (.int .u8 0)), (.d (.int .u8 0)), (.d (.int .i16 0))]), .none⟩,
   ⟨.none, (.store 5 (.t 5) (.t 13)), .none⟩])
 c31_4))
abbrev c31_2 : PCode :=
 (.keep [3, 8, 9, 10] (.block 0 (.loop (.some [10, 3, 8, 9]) (.seq (.region [⟨(.some 11), (.bin .lss (.t 10) (.t 9)), .none⟩])
 (.seq (.cond (.t 11)
  .skip
  (.exit 0))
 (.seq c31_3
 (.region [⟨(.some 28), (.bin .add (.t 10) (.c (.d (.int .i64 1)))), .none⟩,
   ⟨(.some 10), (.mov (.t 28)), .none⟩])))))))
abbrev c31_7 : PCode :=
 (.seq (.region [⟨(.some 29), (.mov (.t 3)), .none⟩,
   ⟨(.some 2), (.mov (.t 29)), .none⟩])
 .ret)
abbrev c31_1 : PCode :=
 (.keep [0, 3] (.seq (.seq (.region [⟨(.some 8), (.mov (.t 0)), .none⟩,
   ⟨(.some 9), (.len (.t 8)), .none⟩,
   ⟨(.some 10), (.mov (.c (.d (.int .i64 0)))), .none⟩])
 c31_2)
 c31_7))
abbrev c31_0 : PCode :=
 (.seq (.region [⟨(.some 6), (.mov (.t 0)), .none⟩,
   ⟨(.some 7), (.len (.t 6)), .none⟩,
   ⟨(.some 3), (.mov (.t 7)), .none⟩])
 c31_1)
def c31 : PFun := ⟨
 (.seq (.region [⟨(.some 2), (.mov (.c (.d (.int .i64 0)))), .none⟩])
 c31_0),
 1, 30, [(.tmp 2)]⟩

/-- (prompter/prog.Program).Check -/
abbrev c12_2 : PCode :=
 (.seq (.region [⟨(.some 2), (.mov (.c (.d (.int .i64 7)))), .none⟩])
 .ret)
abbrev c12_1 : PCode :=
 (.cond (.t 8)
  c12_2
  .skip)
abbrev c12_9 : PCode :=
 (.seq (.region [⟨(.some 2), (.mov (.c (.d (.int .i64 5)))), .none⟩])
 .ret)
abbrev c12_12 : PCode :=
 (.seq (.region [⟨(.some 2), (.mov (.c (.d (.int .i64 2)))), .none⟩])
 .ret)
abbrev c12_15 : PCode :=
 (.seq (.region [⟨(.some 2), (.mov (.c (.d (.int .i64 4)))), .none⟩])
 .ret)
abbrev c12_18 : PCode :=
 (.seq (.region [⟨(.some 2), (.mov (.c (.d (.int .i64 4)))), .none⟩])
 .ret)
abbrev c12_21 : PCode :=
 (.seq (.region [⟨(.some 2), (.mov (.c (.d (.int .i64 2)))), .none⟩])
 .ret)
abbrev c12_20 : PCode :=
 (.cond (.t 122)
  c12_21
  .skip)
abbrev c12_19 : PCode :=
 (.seq (.region [⟨(.some 123), (.faddr 0 (.t 4)), .none⟩,
   ⟨(.some 124), (.load .false 1 (.t 123) .false), .none⟩,
   ⟨(.some 125), (.bin .eql (.t 124) (.c (.d (.int .u8 10)))), .none⟩,
   ⟨(.some 126), (.mov (.t 125)), .none⟩,
   ⟨(.some 127), (.faddr 4 (.t 4)), (.some (126, .true))⟩,
   ⟨(.some 128), (.load .false 1 (.t 127) .false), (.some (126, .true))⟩,
   ⟨(.some 129), (.bin .lss (.t 128) (.c (.d (.int .i16 0)))), (.some (126, .true))⟩,
   ⟨(.some 130), (.pick (.t 126) (.t 129) (.c (.d (.bool .false)))), .none⟩,
   ⟨(.some 122), (.mov (.t 130)), .none⟩])
 c12_20)
abbrev c12_17 : PCode :=
 (.cond (.t 73)
  c12_18
  c12_19)
abbrev c12_16 : PCode :=
 (.seq (.region [⟨(.some 74), (.faddr 0 (.t 4)), .none⟩,
   ⟨(.some 75), (.load .false 1 (.t 74) .false), .none⟩,
   ⟨(.some 76), (.bin .eql (.t 75) (.c (.d (.int .u8 8)))), .none⟩,
   ⟨(.some 77), (.mov (.t 76)), .none⟩,
   ⟨(.some 78), (.faddr 4 (.t 4)), (.some (77, .true))⟩,
   ⟨(.some 79), (.load .false 1 (.t 78) .false), (.some (77, .true))⟩,
   ⟨(.some 80), (.bin .lss (.t 79) (.c (.d (.int .i16 1)))), (.some (77, .true))⟩,
   ⟨(.some 81), (.mov (.t 80)), (.some (77, .true))⟩,
   ⟨(.some 82), (.mov (.t 3)), (.some (81, .false))⟩,
   ⟨(.some 83), (.bin .add (.t 82) (.c (.d (.int .i64 1)))), (.some (81, .false))⟩,
   ⟨(.some 84), (.faddr 4 (.t 4)), (.some (81, .false))⟩,
   ⟨(.some 85), (.load .false 1 (.t 84) .false), (.some (81, .false))⟩,
   ⟨(.some 86), (.cvt .i64 (.t 85)), (.some (81, .false))⟩,
   ⟨(.some 87), (.bin .add (.t 83) (.t 86)), (.some (81, .false))⟩,
   ⟨(.some 88), (.mov (.t 0)), (.some (81, .false))⟩,
   ⟨(.some 89), (.len (.t 88)), (.some (81, .false))⟩,
   ⟨(.some 90), (.bin .gtr (.t 87) (.t 89)), (.some (81, .false))⟩,
   ⟨(.some 91), (.pick (.t 81) (.c (.d (.bool .true))) (.t 90)), (.some (77, .true))⟩,
   ⟨(.some 92), (.mov (.t 91)), (.some (77, .true))⟩,
   ⟨(.some 93), (.mov (.t 5)), (.some (92, .false))⟩,
   ⟨(.some 94), (.bin .gtr (.t 93) (.c (.d (.int .i64 0)))), (.some (92, .false))⟩,
   ⟨(.some 95), (.mov (.t 94)), (.some (92, .false))⟩,
   ⟨(.some 96), (.mov (.t 3)), (.some (95, .true))⟩,
   ⟨(.some 97), (.bin .add (.t 96) (.c (.d (.int .i64 1)))), (.some (95, .true))⟩,
   ⟨(.some 98), (.faddr 4 (.t 4)), (.some (95, .true))⟩,
   ⟨(.some 99), (.load .false 1 (.t 98) .false), (.some (95, .true))⟩,
   ⟨(.some 100), (.cvt .i64 (.t 99)), (.some (95, .true))⟩,
   ⟨(.some 101), (.bin .add (.t 97) (.t 100)), (.some (95, .true))⟩,
   ⟨(.some 102), (.mov (.t 5)), (.some (95, .true))⟩,
   ⟨(.some 103), (.bin .gtr (.t 101) (.t 102)), (.some (95, .true))⟩,
   ⟨(.some 104), (.pick (.t 95) (.t 103) (.c (.d (.bool .false)))), (.some (92, .false))⟩,
   ⟨(.some 105), (.pick (.t 92) (.c (.d (.bool .true))) (.t 104)), (.some (77, .true))⟩,
   ⟨(.some 106), (.mov (.t 105)), (.some (77, .true))⟩,
   ⟨(.some 107), (.mov (.t 5)), (.some (106, .false))⟩,
   ⟨(.some 108), (.bin .eql (.t 107) (.c (.d (.int .i64 0)))), (.some (106, .false))⟩,
   ⟨(.some 109), (.mov (.t 108)), (.some (106, .false))⟩,
   ⟨(.some 110), (.mov (.t 0)), (.some (109, .true))⟩,
   ⟨(.some 111), (.mov (.t 3)), (.some (109, .true))⟩,
   ⟨(.some 112), (.bin .add (.t 111) (.c (.d (.int .i64 1)))), (.some (109, .true))⟩,
   ⟨(.some 113), (.faddr 4 (.t 4)), (.some (109, .true))⟩,
   ⟨(.some 114), (.load .false 1 (.t 113) .false), (.some (109, .true))⟩,
   ⟨(.some 115), (.cvt .i64 (.t 114)), (.some (109, .true))⟩,
   ⟨(.some 116), (.bin .add (.t 112) (.t 115)), (.some (109, .true))⟩,
   ⟨(.some 117), (.call0 29 [(.t 110), (.t 116)]), (.some (109, .true))⟩,
   ⟨(.some 118), (.bin .gtr (.t 117) (.c (.d (.int .i64 0)))), (.some (109, .true))⟩,
   ⟨(.some 119), (.pick (.t 109) (.t 118) (.c (.d (.bool .false)))), (.some (106, .false))⟩,
   ⟨(.some 120), (.pick (.t 106) (.c (.d (.bool .true))) (.t 119)), (.some (77, .true))⟩,
   ⟨(.some 121), (.pick (.t 77) (.t 120) (.c (.d (.bool .false)))), .none⟩,
   ⟨(.some 73), (.mov (.t 121)), .none⟩])
 c12_17)
abbrev c12_14 : PCode :=
 (.cond (.t 42)
  c12_15
  c12_16)
abbrev c12_13 : PCode :=
 (.seq (.region [⟨(.some 43), (.faddr 0 (.t 4)), .none⟩,
   ⟨(.some 44), (.load .false 1 (.t 43) .false), .none⟩,
   ⟨(.some 45), (.bin .eql (.t 44) (.c (.d (.int .u8 9)))), .none⟩,
   ⟨(.some 46), (.mov (.t 45)), .none⟩,
   ⟨(.some 47), (.mov (.t 5)), (.some (46, .true))⟩,
   ⟨(.some 48), (.bin .gtr (.t 47) (.c (.d (.int .i64 0)))), (.some (46, .true))⟩,
   ⟨(.some 49), (.mov (.t 48)), (.some (46, .true))⟩,
   ⟨(.some 50), (.faddr 3 (.t 4)), (.some (49, .false))⟩,
   ⟨(.some 51), (.load .false 1 (.t 50) .false), (.some (49, .false))⟩,
   ⟨(.some 52), (.bin .lss (.t 51) (.c (.d (.int .u8 1)))), (.some (49, .false))⟩,
   ⟨(.some 53), (.pick (.t 49) (.c (.d (.bool .true))) (.t 52)), (.some (46, .true))⟩,
   ⟨(.some 54), (.mov (.t 53)), (.some (46, .true))⟩,
   ⟨(.some 55), (.mov (.t 0)), (.some (54, .false))⟩,
   ⟨(.some 56), (.mov (.t 3)), (.some (54, .false))⟩,
   ⟨(.some 57), (.call0 30 [(.t 55), (.t 56)]), (.some (54, .false))⟩,
   ⟨(.some 58), (.mov (.t 0)), (.some (54, .false))⟩,
   ⟨(.some 59), (.len (.t 58)), (.some (54, .false))⟩,
   ⟨(.some 60), (.bin .gtr (.t 57) (.t 59)), (.some (54, .false))⟩,
   ⟨(.some 61), (.pick (.t 54) (.c (.d (.bool .true))) (.t 60)), (.some (46, .true))⟩,
   ⟨(.some 62), (.mov (.t 61)), (.some (46, .true))⟩,
   ⟨(.some 63), (.faddr 4 (.t 4)), (.some (62, .false))⟩,
   ⟨(.some 64), (.load .false 1 (.t 63) .false), (.some (62, .false))⟩,
   ⟨(.some 65), (.bin .lss (.t 64) (.c (.d (.int .i16 1)))), (.some (62, .false))⟩,
   ⟨(.some 66), (.pick (.t 62) (.c (.d (.bool .true))) (.t 65)), (.some (46, .true))⟩,
   ⟨(.some 67), (.mov (.t 66)), (.some (46, .true))⟩,
   ⟨(.some 68), (.faddr 4 (.t 4)), (.some (67, .false))⟩,
   ⟨(.some 69), (.load .false 1 (.t 68) .false), (.some (67, .false))⟩,
   ⟨(.some 70), (.bin .gtr (.t 69) (.c (.d (.int .i16 8)))), (.some (67, .false))⟩,
   ⟨(.some 71), (.pick (.t 67) (.c (.d (.bool .true))) (.t 70)), (.some (46, .true))⟩,
   ⟨(.some 72), (.pick (.t 46) (.t 71) (.c (.d (.bool .false)))), .none⟩,
   ⟨(.some 42), (.mov (.t 72)), .none⟩])
 c12_14)
abbrev c12_11 : PCode :=
 (.cond (.t 23)
  c12_12
  c12_13)
abbrev c12_10 : PCode :=
 (.seq (.region [⟨(.some 24), (.faddr 1 (.t 4)), .none⟩,
   ⟨(.some 25), (.load .false 1 (.t 24) .false), .none⟩,
   ⟨(.some 26), (.bin .geq (.t 25) (.c (.d (.int .u8 16)))), .none⟩,
   ⟨(.some 27), (.mov (.t 26)), .none⟩,
   ⟨(.some 28), (.faddr 2 (.t 4)), (.some (27, .false))⟩,
   ⟨(.some 29), (.load .false 1 (.t 28) .false), (.some (27, .false))⟩,
   ⟨(.some 30), (.bin .geq (.t 29) (.c (.d (.int .u8 16)))), (.some (27, .false))⟩,
   ⟨(.some 31), (.pick (.t 27) (.c (.d (.bool .true))) (.t 30)), .none⟩,
   ⟨(.some 32), (.mov (.t 31)), .none⟩,
   ⟨(.some 33), (.faddr 0 (.t 4)), (.some (32, .false))⟩,
   ⟨(.some 34), (.load .false 1 (.t 33) .false), (.some (32, .false))⟩,
   ⟨(.some 35), (.bin .neq (.t 34) (.c (.d (.int .u8 9)))), (.some (32, .false))⟩,
   ⟨(.some 36), (.mov (.t 35)), (.some (32, .false))⟩,
   ⟨(.some 37), (.faddr 3 (.t 4)), (.some (36, .true))⟩,
   ⟨(.some 38), (.load .false 1 (.t 37) .false), (.some (36, .true))⟩,
   ⟨(.some 39), (.bin .geq (.t 38) (.c (.d (.int .u8 16)))), (.some (36, .true))⟩,
   ⟨(.some 40), (.pick (.t 36) (.t 39) (.c (.d (.bool .false)))), (.some (32, .false))⟩,
   ⟨(.some 41), (.pick (.t 32) (.c (.d (.bool .true))) (.t 40)), .none⟩,
   ⟨(.some 23), (.mov (.t 41)), .none⟩])
 c12_11)
abbrev c12_8 : PCode :=
 (.cond (.t 19)
  c12_9
  c12_10)
abbrev c12_7 : PCode :=
 (.keep [0, 3, 4, 5, 9, 10, 11] (.block 2 (.seq (.region [⟨(.some 20), (.faddr 0 (.t 4)), .none⟩,
   ⟨(.some 21), (.load .false 1 (.t 20) .false), .none⟩,
   ⟨(.some 22), (.bin .geq (.t 21) (.c (.d (.int .u8 12)))), .none⟩,
   ⟨(.some 19), (.mov (.t 22)), .none⟩])
 c12_8)))
abbrev c12_6 : PCode :=
 (.keep [0, 3, 4, 9, 10, 11] (.seq (.region [⟨(.some 16), (.mov (.t 0)), .none⟩,
   ⟨(.some 17), (.mov (.t 3)), .none⟩,
   ⟨(.some 18), (.call0 29 [(.t 16), (.t 17)]), .none⟩,
   ⟨(.some 5), (.mov (.t 18)), .none⟩])
 c12_7))
abbrev c12_5 : PCode :=
 (.block 1 (.seq (.region [⟨(.some 13), (.mov (.t 11)), .none⟩,
   ⟨(.some 14), (.iaddr 5 (.t 9) (.t 11)), .none⟩,
   ⟨(.some 15), (.load .true 5 (.t 14) .false), .none⟩,
   ⟨(.some 4), (.alloc [(.d (.int .u8 0)), (.d (.int .u8 0)), (.d (.int .u8 0)), (.d (.int .u8 0)), (.d (.int .i16 0))]), .none⟩,
   ⟨(.some 3), (.mov (.t 13)), .none⟩,
   ⟨.none, (.store 5 (.t 4) (.t 15)), .none⟩])
 c12_6))
abbrev c12_4 : PCode :=
 (.keep [0, 9, 10, 11] (.block 0 (.loop (.some [11, 0, 9, 10]) (.seq (.region [⟨(.some 12), (.bin .lss (.t 11) (.t 10)), .none⟩])
 (.seq (.cond (.t 12)
  .skip
  (.exit 0))
 (.seq c12_5
 (.region [⟨(.some 131), (.bin .add (.t 11) (.c (.d (.int .i64 1)))), .none⟩,
   ⟨(.some 11), (.mov (.t 131)), .none⟩])))))))
abbrev c12_24 : PCode :=
 (.seq (.region [⟨(.some 2), (.mov (.c (.d (.int .i64 6)))), .none⟩])
 .ret)
abbrev c12_23 : PCode :=
 (.cond (.t 134)
  c12_24
  .skip)
abbrev c12_25 : PCode :=
 (.keep [] (.seq (.region [⟨(.some 2), (.mov (.c (.d (.int .i64 0)))), .none⟩])
 .ret))
abbrev c12_22 : PCode :=
 (.seq (.seq (.region [⟨(.some 132), (.mov (.t 0)), .none⟩,
   ⟨(.some 133), (.call0 31 [(.t 132)]), .none⟩,
   ⟨(.some 134), (.bin .gtr (.t 133) (.c (.d (.int .i64 200)))), .none⟩])
 c12_23)
 c12_25)
abbrev c12_3 : PCode :=
 (.keep [0] (.seq (.seq (.region [⟨(.some 9), (.mov (.t 0)), .none⟩,
   ⟨(.some 10), (.len (.t 9)), .none⟩,
   ⟨(.some 11), (.mov (.c (.d (.int .i64 0)))), .none⟩])
 c12_4)
 c12_22))
abbrev c12_0 : PCode :=
 (.seq (.seq (.region [⟨(.some 6), (.mov (.t 0)), .none⟩,
   ⟨(.some 7), (.len (.t 6)), .none⟩,
   ⟨(.some 8), (.bin .gtr (.t 7) (.c (.d (.int .i64 24)))), .none⟩])
 c12_1)
 c12_3)
def c12 : PFun := ⟨
 (.seq (.region [⟨(.some 2), (.mov (.c (.d (.int .i64 0)))), .none⟩])
 c12_0),
 1, 135, [(.tmp 2)]⟩

theorem e30 : entered Try.prog 30 = true := by kernel_rfl
theorem k30 : compFun Try.prog (fun _ => 0) 30 = some c30.er := by kernel_rfl
theorem e29 : entered Try.prog 29 = true := by kernel_rfl
theorem k29 : compFun Try.prog (fun _ => 0) 29 = some c29.er := by kernel_rfl
theorem e31 : entered Try.prog 31 = true := by kernel_rfl
theorem k31 : compFun Try.prog (fun _ => 0) 31 = some c31.er := by kernel_rfl
theorem e12 : entered Try.prog 12 = true := by kernel_rfl
theorem k12 : compFun Try.prog (fun _ => 0) 12 = some c12.er := by kernel_rfl


theorem C30 (p : List Ins) (hp : ∀ x ∈ p, x.fit) (hpl : p.length < 2 ^ 40) (i : Nat) (hi : i < p.length) : Pure (PCalls Try.prog GG) 30 [.d (.sl (p.map Ins.row)), i64 i] (i64 (bodyEnd p i)) := by
  obtain ⟨x, hx, hxm⟩ := elem_at hi
  have hxf := hp x hxm
  have hb := hxf.b
  intro st; refine pcalls_of k30 e30 (of_decide_eq_true rfl) ?_; dsimp only [c30]; refine pstartL ?_; intro t hL; generalize hQ : pfin _ _ = Q
  refine gor hL ?_; (repeat (clear hL; intro t hL; refine gor hL ?_))
  refine pcond_b rfl (fun h => ?_) (fun h => ?_)
  · have h' : ¬ x.op = 9 := by simpa using h
    have e : bodyEnd p i = 0 := by rw [bodyEnd, hx]; exact if_neg h'
    rw [e] at hQ
    refine gor hL ?_; (repeat (clear hL; intro t hL; refine gor hL ?_))
    rw [← hQ]
    exact pfin_pure rfl hL.le
  have h' : x.op = 9 := by simpa using h
  have e : (bodyEnd p i : Int) = (i : Int) + 1 + x.b := by
    have : bodyEnd p i = i + 1 + x.b.toNat := by rw [bodyEnd, hx]; exact if_pos h'
    omega
  rw [e] at hQ
  refine gor hL ?_; (repeat (clear hL; intro t hL; refine gor hL ?_))
  refine gnm ?_; rw [IntWalk.i64_in x.b (by omega), IntWalk.i64_in ((i : Int) + 1) (by omega), IntWalk.i64_in ((i : Int) + 1 + x.b) (by omega)]
  rw [← hQ]
  exact pfin_pure rfl hL.le

theorem bodyEnd_le (p : List Ins) (hp : ∀ x ∈ p, x.fit) (i : Nat) : bodyEnd p i ≤ i + 1 + 255 := by
  unfold bodyEnd
  split
  · rename_i x hx
    have := (hp x (List.mem_of_getElem? hx)).b
    split <;> omega
  · omega

theorem C29 (p : List Ins) (hp : ∀ x ∈ p, x.fit) (hpl : p.length < 2 ^ 40) (i : Nat) (hi : i < 2 ^ 41) : Pure (PCalls Try.prog GG) 29 [.d (.sl (p.map Ins.row)), i64 i] (i64 (within p i)) := by
  intro st; refine pcalls_of k29 e29 (of_decide_eq_true rfl) ?_; dsimp only [c29]; refine pstartL ?_; intro t hL; generalize hQ : pfin _ _ = Q
  have hmin : (if (p.length : Int) < (i : Int) then (p.length : Int) else (i : Int)) = ((min i p.length : Nat) : Int) := by
    split <;> omega
  have hnm : min i p.length ≤ p.length := Nat.min_le_right _ _
  have hwi : within p i = ((List.range (min i p.length)).find? fun k => decide (bodyEnd p k > i)).elim 0 (bodyEnd p) := rfl
  generalize hn : min i p.length = n at *
  refine gor hL ?_; (repeat (clear hL; intro t hL; refine gor hL ?_))
  simp only [Bool.false_eq_true, if_false, hmin]
  refine gor hL ?_; (repeat (clear hL; intro t hL; refine gor hL ?_))
  (apply prangeK hL (n) (by omega) (fun k => ∀ j, j < k → ¬ bodyEnd p j > i)); (· exact trimA); (· exact fun _ => rfl)
  · intro j hj; omega
  · intro t hL hall
    have e : within p i = 0 := by
      rw [hwi]
      have : ((List.range n).find? fun k => decide (bodyEnd p k > i)) = none := by
        rw [List.find?_eq_none]
        intro k hk
        have := hall k (List.mem_range.1 hk)
        simpa using this
      rw [this]; rfl
    rw [e] at hQ
    refine gor hL ?_; (repeat (clear hL; intro t hL; refine gor hL ?_))
    rw [← hQ]
    exact pfin_pure rfl hL.le
  · intro k hk t hL hall
    refine pblock ?_
    refine gor hL ?_; (repeat (clear hL; intro t hL; refine gor hL ?_))
    refine po_c0 (C30 p hp hpl k (by omega)) ?_
    refine gor hL ?_; (repeat (clear hL; intro t hL; refine gor hL ?_))
    refine pcond_b rfl (fun hc => ?_) (fun hc => ?_)
    · have hc' : bodyEnd p k > i := by simpa using hc
      have e : within p i = bodyEnd p k := by
        rw [hwi]
        have : ((List.range n).find? fun k => decide (bodyEnd p k > i)) = some k := by
          rw [List.find?_eq_some_iff_append]
          refine ⟨by simpa using hc', List.range k, List.range' (k + 1) (n - (k + 1)), ?_, fun a ha => by simpa using hall a (List.mem_range.1 ha)⟩
          rw [List.range_eq_range', List.range_eq_range']
          have : n = k + (1 + (n - (k + 1))) := by omega
          conv => lhs; rw [this]
          rw [← List.range'_append_1, Nat.zero_add, ← List.range'_append_1]
          rfl
        rw [this]; rfl
      rw [e] at hQ
      refine gor hL ?_; (repeat (clear hL; intro t hL; refine gor hL ?_))
      rw [← hQ]
      exact pfin_pure rfl hL.le
    · have hc' : ¬ bodyEnd p k > i := by simpa using hc
      refine gor hL ?_; (repeat (clear hL; intro t hL; refine gor hL ?_))
      refine ⟨hL.pk, ?_, tr2⟩
      intro j hj
      by_cases hjk : j = k
      · subst hjk; exact hc'
      · exact hall j (by omega)

theorem fuel1_in {x : Ins} (h : x.fit) : 0 ≤ fuel1 x ∧ fuel1 x ≤ 8388608 := by
  unfold fuel1
  have := h.b; have := h.n
  split
  · constructor
    · exact Int.mul_nonneg (by omega) (by omega)
    · have : x.b * (max x.n 1 - 1) ≤ 255 * (max x.n 1 - 1) := Int.mul_le_mul_of_nonneg_right (by omega) (by omega)
      omega
  · omega
theorem fuelS_in {l : List Ins} (h : ∀ x ∈ l, x.fit) : 0 ≤ (l.map fuel1).sum ∧ (l.map fuel1).sum ≤ 8388608 * l.length := by
  induction l with
  | nil => simp
  | cons x l ih =>
    have h1 := fuel1_in (h x (by simp))
    have h2 := ih fun y hy => h y (by simp [hy])
    simp only [List.map_cons, List.sum_cons, List.length_cons]
    omega

theorem C31 (p : List Ins) (hp : ∀ x ∈ p, x.fit) (hpl : p.length < 2 ^ 36) : Pure (PCalls Try.prog GG) 31 [.d (.sl (p.map Ins.row))] (.d (.int .i64 (fuelP p))) := by
  intro st; refine pcalls_of k31 e31 (of_decide_eq_true rfl) ?_; dsimp only [c31]; refine pstartL ?_; intro t hL; generalize hQ : pfin _ _ = Q
  refine gor hL ?_; (repeat (clear hL; intro t hL; refine gor hL ?_))
  (apply prangeA (p.length) (by omega) (fun (n : Int) s => put s (some 3) (.d (.int .i64 n))) (fun k (n : Int) t => Lay st [] t ∧ n = p.length + ((p.take k).map fuel1).sum) ((p.length : Int))); (· exact trimA); (· exact fun _ _ => rfl)
  · exact ⟨hL.pk, by simp⟩
  · rintro n t ⟨hL, rfl⟩
    rw [List.take_length]
    refine gor hL ?_; (repeat (clear hL; intro t hL; refine gor hL ?_))
    rw [← hQ]
    exact pfin_pure rfl hL.le
  · rintro k hk n t ⟨hL, hn⟩
    obtain ⟨x, hx, hxm⟩ := elem_at hk
    have hsn := take_snoc hx
    have hxf := hp x hxm
    have h1 := fuelS_in (l := p.take k) fun y hy => hp y (List.mem_of_mem_take hy)
    have h2 := fuel1_in hxf
    have hs : ((p.take (k + 1)).map fuel1).sum = ((p.take k).map fuel1).sum + fuel1 x := by rw [hsn]; simp
    have hlt : (p.take k).length ≤ p.length := by simp; omega
    generalize ((p.take k).map fuel1).sum = S at *
    refine pblock ?_
    refine gor hL ?_; (repeat (clear hL; intro t hL; refine gor hL ?_))
    (refine gor hL ?_; (repeat (clear hL; intro t hL; refine gor hL ?_))); (with_reducible refine po_allocL hL rfl ?_); clear hL; intro p5 t hL
    refine gor hL ?_; (repeat (clear hL; intro t hL; refine gor hL ?_))
    have hb := hxf.b
    have hx16 := hxf.n
    refine pcond_b rfl (fun h9 => ?_) (fun h9 => ?_)
    · have h9' : x.op = 9 := by simpa using h9
      have e : fuel1 x = x.b * (max x.n 1 - 1) := if_pos h9'
      have hm : (if (1 : Int) > x.n then 1 else x.n) = max x.n 1 := by split <;> omega
      generalize max x.n 1 = mx at *
      have hmx : 1 ≤ mx ∧ mx ≤ 32767 := by split at hm <;> omega
      refine gor hL ?_; (repeat (clear hL; intro t hL; refine gor hL ?_))
      refine gnm ?_; rw [IntWalk.i64_in x.b (by omega), IntWalk.i64_in x.n (by omega)]
      simp only [if_true, hm]
      refine gnm ?_; rw [IntWalk.i64_in (mx - 1) (by omega), ← e, IntWalk.i64_in (fuel1 x) (by omega), IntWalk.i64_in (n + fuel1 x) (by omega)]
      exact ⟨n + fuel1 x, ⟨hL.pk, by omega⟩, tr2⟩
    · have h9' : ¬ x.op = 9 := by simpa using h9
      have e : fuel1 x = 0 := if_neg h9'
      refine gor hL ?_; (repeat (clear hL; intro t hL; refine gor hL ?_))
      exact ⟨n, ⟨hL.pk, by omega⟩, tr2⟩

theorem C12 (p : List Ins) (hp : ∀ x ∈ p, x.fit) (hpl : p.length < 2 ^ 36) : Pure (PCalls Try.prog GG) 12 [.d (.sl (p.map Ins.row))] (.d (.int .i64 (checkP p))) := by
  have hpl2 : p.length < 2 ^ 40 := by omega
  intro st; refine pcalls_of k12 e12 (of_decide_eq_true rfl) ?_; dsimp only [c12]; refine pstartL ?_; intro t hL; generalize hQ : pfin _ _ = Q
  refine gor hL ?_; (repeat (clear hL; intro t hL; refine gor hL ?_))
  refine pcond_b rfl (fun hmany => ?_) (fun hmany => ?_)
  · have hmany' : p.length > 24 := by simp at hmany; omega
    rw [checkP, if_pos hmany'] at hQ
    refine gor hL ?_; (repeat (clear hL; intro t hL; refine gor hL ?_))
    rw [← hQ]
    exact pfin_pure rfl hL.le
  have hmany' : ¬ p.length > 24 := by simp at hmany; omega
  rw [checkP, if_neg hmany'] at hQ
  refine gor hL ?_; (repeat (clear hL; intro t hL; refine gor hL ?_))
  (apply prangeK hL (p.length) (by omega) (fun k => chkFrom p k (p.drop k) = chkFrom p 0 p)); (· exact trimA); (· exact fun _ => rfl)
  · rfl
  · intro t hL he
    rw [List.drop_length] at he
    rw [← he, chkFrom] at hQ
    refine gor hL ?_; (repeat (clear hL; intro t hL; refine gor hL ?_))
    refine po_c0 (C31 p hp hpl) ?_
    refine gor hL ?_; (repeat (clear hL; intro t hL; refine gor hL ?_))
    refine pcond_b rfl (fun hfu => ?_) (fun hfu => ?_)
    · have hfu' : fuelP p > 200 := by simpa using hfu
      rw [if_pos hfu'] at hQ
      refine gor hL ?_; (repeat (clear hL; intro t hL; refine gor hL ?_))
      rw [← hQ]
      exact pfin_pure rfl hL.le
    · have hfu' : ¬ fuelP p > 200 := by simpa using hfu
      rw [if_neg hfu'] at hQ
      refine gor hL ?_; (repeat (clear hL; intro t hL; refine gor hL ?_))
      rw [← hQ]
      exact pfin_pure rfl hL.le
  · intro k hk t hL he
    obtain ⟨x, hx, hxm⟩ := elem_at hk
    have hxf := hp x hxm
    have hd : p.drop k = x :: p.drop (k + 1) := by
      obtain ⟨hlt, hx'⟩ := List.getElem?_eq_some_iff.1 hx
      rw [← hx']; exact List.drop_eq_getElem_cons hlt
    rw [hd, chkFrom] at he
    refine pblock ?_
    refine gor hL ?_; (repeat (clear hL; intro t hL; refine gor hL ?_))
    (refine gor hL ?_; (repeat (clear hL; intro t hL; refine gor hL ?_))); (with_reducible refine po_allocL hL rfl ?_); clear hL; intro p4 t hL
    refine gor hL ?_; (repeat (clear hL; intro t hL; refine gor hL ?_))
    refine po_c0 (C29 p hp hpl2 k (by omega)) ?_
    refine gor hL ?_; (repeat (clear hL; intro t hL; refine gor hL ?_))
    have hop := hxf.op
    have hdst := hxf.dst
    have ha := hxf.a
    have hb := hxf.b
    have hn := hxf.n
    -- an error
    have err : ∀ e : Int, e ≠ 0 → chk1 p k x = e → chkFrom p 0 p = e := fun e h1 h2 => by rw [← he, if_pos (by rw [h2]; exact h1), h2]
    refine pcond_b rfl (fun h12 => ?_) (fun h12 => ?_)
    · have h12' : x.op ≥ 12 := by simpa using h12
      have e := err 5 (by decide) (if_pos h12')
      rw [e] at hQ
      refine gor hL ?_; (repeat (clear hL; intro t hL; refine gor hL ?_))
      rw [← hQ]
      exact pfin_pure rfl hL.le
    have h12' : ¬ x.op ≥ 12 := by simpa using h12
    refine gor hL ?_; (repeat (clear hL; intro t hL; refine gor hL ?_))
    refine pcond_b rfl (fun h23 => ?_) (fun h23 => ?_)
    · have h23' : x.dst ≥ 16 ∨ x.a ≥ 16 ∨ (x.op ≠ 9 ∧ x.b ≥ 16) := by simpa [or_assoc] using h23
      have e := err 2 (by decide) ((if_neg h12').trans (if_pos h23'))
      rw [e] at hQ
      refine gor hL ?_; (repeat (clear hL; intro t hL; refine gor hL ?_))
      rw [← hQ]
      exact pfin_pure rfl hL.le
    have h23' : ¬ (x.dst ≥ 16 ∨ x.a ≥ 16 ∨ (x.op ≠ 9 ∧ x.b ≥ 16)) := by
      intro h
      have : (decide (x.dst ≥ 16) || decide (x.a ≥ 16) || x.op != 9 && decide (x.b ≥ 16)) = true := by simpa [or_assoc] using h
      rw [h23] at this; cases this
    refine gor hL ?_; (repeat (clear hL; intro t hL; refine gor hL ?_))
    ((with_reducible apply po_g); (· exact gwt); (· (intro hw; refine does_call0 ?_ (C30 p hp hpl2 k hk); exact gargs hw)))
    refine gor hL ?_; (repeat (clear hL; intro t hL; refine gor hL ?_))
    have kint : ∀ a b : Nat, ((a : Int) > (b : Int)) ↔ a > b := fun a b => by omega
    refine pcond_b rfl (fun h42 => ?_) (fun h42 => ?_)
    · have h42' : x.op = 9 ∧ (within p k > 0 ∨ x.b < 1 ∨ bodyEnd p k > p.length ∨ x.n < 1 ∨ x.n > 8) := by
        simp only [Bool.and_eq_true, Bool.or_eq_true, decide_eq_true_eq, beq_iff_eq] at h42
        omega
      have e := err 4 (by decide) ((if_neg h12').trans ((if_neg h23').trans (if_pos h42')))
      rw [e] at hQ
      refine gor hL ?_; (repeat (clear hL; intro t hL; refine gor hL ?_))
      rw [← hQ]
      exact pfin_pure rfl hL.le
    have h42' : ¬ (x.op = 9 ∧ (within p k > 0 ∨ x.b < 1 ∨ bodyEnd p k > p.length ∨ x.n < 1 ∨ x.n > 8)) := by
      intro h
      have : (x.op == 9 && (decide ((within p k : Int) > 0) || decide (x.b < 1) || decide ((bodyEnd p k : Int) > (p.length : Int)) || decide (x.n < 1) || decide (x.n > 8))) = true := by
        simp only [Bool.and_eq_true, Bool.or_eq_true, decide_eq_true_eq, beq_iff_eq]
        omega
      rw [h42] at this; cases this
    refine gor hL ?_; (repeat (clear hL; intro t hL; refine gor hL ?_))
    refine gnm ?_; rw [IntWalk.i64_in ((k : Int) + 1) (by omega), IntWalk.i64_in x.n (by omega), IntWalk.i64_in ((k : Int) + 1 + x.n) (by omega)]
    ((with_reducible apply po_g); (· exact gwt); (· (intro hw; refine does_call0 ?_ (C29 p hp hpl2 (k + 1 + x.n.toNat) (by omega)); have hn1 : 1 ≤ x.n := (by simp only [Bool.and_eq_true, Bool.or_eq_true, Bool.not_eq_true', Bool.or_eq_false_iff, decide_eq_false_iff_not] at hw; omega); have en : ((k + 1 + x.n.toNat : Nat) : Int) = (k : Int) + 1 + x.n := (by omega); rw [en]; exact gargs hw)))
    refine gor hL ?_; (repeat (clear hL; intro t hL; refine gor hL ?_))
    refine pcond_b rfl (fun h73 => ?_) (fun h73 => ?_)
    · have h73' : x.op = 8 ∧ (x.n < 1 ∨ (k : Int) + 1 + x.n > p.length ∨ (within p k > 0 ∧ (k : Int) + 1 + x.n > within p k) ∨ (within p k = 0 ∧ within p (k + 1 + x.n.toNat) > 0)) := by
        simp only [Bool.and_eq_true, Bool.or_eq_true, decide_eq_true_eq, beq_iff_eq] at h73
        omega
      have e := err 4 (by decide) ((if_neg h12').trans ((if_neg h23').trans ((if_neg h42').trans (if_pos h73'))))
      rw [e] at hQ
      refine gor hL ?_; (repeat (clear hL; intro t hL; refine gor hL ?_))
      rw [← hQ]
      exact pfin_pure rfl hL.le
    have h73' : ¬ (x.op = 8 ∧ (x.n < 1 ∨ (k : Int) + 1 + x.n > p.length ∨ (within p k > 0 ∧ (k : Int) + 1 + x.n > within p k) ∨ (within p k = 0 ∧ within p (k + 1 + x.n.toNat) > 0))) := by
      intro h
      have : (x.op == 8 && (decide (x.n < 1) || decide ((k : Int) + 1 + x.n > (p.length : Int)) || decide ((within p k : Int) > 0) && decide ((k : Int) + 1 + x.n > (within p k : Int)) || (within p k : Int) == 0 && decide ((within p (k + 1 + x.n.toNat) : Int) > 0))) = true := by
        simp only [Bool.and_eq_true, Bool.or_eq_true, decide_eq_true_eq, beq_iff_eq]
        omega
      rw [h73] at this; cases this
    refine gor hL ?_; (repeat (clear hL; intro t hL; refine gor hL ?_))
    refine pcond_b rfl (fun h122 => ?_) (fun h122 => ?_)
    · have h122' : x.op = 10 ∧ x.n < 0 := by simpa using h122
      have e := err 2 (by decide) ((if_neg h12').trans ((if_neg h23').trans ((if_neg h42').trans ((if_neg h73').trans (if_pos h122')))))
      rw [e] at hQ
      refine gor hL ?_; (repeat (clear hL; intro t hL; refine gor hL ?_))
      rw [← hQ]
      exact pfin_pure rfl hL.le
    have h122' : ¬ (x.op = 10 ∧ x.n < 0) := by
      intro h
      have : (x.op == 10 && decide (x.n < 0)) = true := by simpa using h
      rw [h122] at this; cases this
    have e0 : chk1 p k x = 0 := (if_neg h12').trans ((if_neg h23').trans ((if_neg h42').trans ((if_neg h73').trans (if_neg h122'))))
    rw [e0, if_neg (by decide)] at he
    refine gor hL ?_; (repeat (clear hL; intro t hL; refine gor hL ?_))
    refine ⟨hL.pk, ?_, tr2⟩
    exact he
end Go.Pv
