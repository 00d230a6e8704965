/- Functions of the program, by value. No condition. -/
import Derived.Test.YtidelhpljjjjmaaV14
namespace Go.Pv
open Go.Proofs
set_option maxRecDepth 100000
set_option maxHeartbeats 8000000

/-- prompter/prompterref08.Build -/
abbrev c25_4 : PCode :=
 (.region [⟨(.some 21), (.mov (.t 0)), .none⟩,
   ⟨(.some 22), (.call0 45 [(.t 21), (.c (.d (.int .i64 2)))]), .none⟩,
   ⟨(.some 23), (.faddr 0 (.t 5)), .none⟩,
   ⟨.none, (.store 1 (.t 23) (.t 22)), .none⟩])
abbrev c25_3 : PCode :=
 (.cond (.t 20)
  c25_4
  .skip)
abbrev c25_7 : PCode :=
 (.region [⟨(.some 27), (.mov (.t 0)), .none⟩,
   ⟨(.some 28), (.call0 45 [(.t 27), (.c (.d (.int .i64 65536)))]), .none⟩,
   ⟨(.some 29), (.faddr 0 (.t 5)), .none⟩,
   ⟨.none, (.store 1 (.t 29) (.t 28)), .none⟩])
abbrev c25_6 : PCode :=
 (.cond (.t 26)
  c25_7
  .skip)
abbrev c25_13 : PCode :=
 (.region [⟨(.some 39), (.faddr 0 (.t 5)), .none⟩,
   ⟨(.some 40), (.load .false 1 (.t 39) .false), .none⟩,
   ⟨(.some 41), (.bin .sub (.t 40) (.c (.d (.int .i64 4294967296)))), .none⟩,
   ⟨(.some 42), (.faddr 0 (.t 5)), .none⟩,
   ⟨.none, (.store 1 (.t 42) (.t 41)), .none⟩])
abbrev c25_12 : PCode :=
 (.cond (.t 38)
  c25_13
  .skip)
abbrev c25_11 : PCode :=
 (.keep [0, 3, 4, 5] (.seq (.region [⟨(.some 36), (.faddr 0 (.t 5)), .none⟩,
   ⟨(.some 37), (.load .false 1 (.t 36) .false), .none⟩,
   ⟨(.some 38), (.bin .geq (.t 37) (.c (.d (.int .i64 2147483648)))), .none⟩])
 c25_12))
abbrev c25_10 : PCode :=
 (.seq (.region [⟨(.some 33), (.mov (.t 0)), .none⟩,
   ⟨(.some 34), (.call0 45 [(.t 33), (.c (.d (.int .i64 4294967296)))]), .none⟩,
   ⟨(.some 35), (.faddr 0 (.t 5)), .none⟩,
   ⟨.none, (.store 1 (.t 35) (.t 34)), .none⟩])
 c25_11)
abbrev c25_9 : PCode :=
 (.cond (.t 32)
  c25_10
  .skip)
abbrev c25_17 : PCode :=
 (.keep [0, 3, 4, 5] (.region [⟨(.some 72), (.mov (.t 0)), .none⟩,
   ⟨(.some 73), (.nilchk (.t 72)), .none⟩,
   ⟨(.some 74), (.faddr 1 (.t 73)), .none⟩,
   ⟨(.some 75), (.load .false 1 (.t 74) .false), .none⟩,
   ⟨(.some 76), (.bin .add (.t 75) (.c (.d (.int .i64 1)))), .none⟩,
   ⟨(.some 77), (.nilchk (.t 72)), .none⟩,
   ⟨(.some 78), (.faddr 1 (.t 77)), .none⟩,
   ⟨.none, (.store 1 (.t 78) (.t 76)), .none⟩]))
abbrev c25_16 : PCode :=
 (.seq (.region [⟨(.some 54), (.mov (.t 0)), .none⟩,
   ⟨(.some 55), (.nilchk (.t 54)), .none⟩,
   ⟨(.some 56), (.faddr 0 (.t 55)), .none⟩,
   ⟨(.some 57), (.load .false 1 (.t 56) .false), .none⟩,
   ⟨(.some 58), (.mov (.t 0)), .none⟩,
   ⟨(.some 59), (.nilchk (.t 58)), .none⟩,
   ⟨(.some 60), (.faddr 1 (.t 59)), .none⟩,
   ⟨(.some 61), (.load .false 1 (.t 60) .false), .none⟩,
   ⟨(.some 62), (.mov (.t 0)), .none⟩,
   ⟨(.some 63), (.nilchk (.t 62)), .none⟩,
   ⟨(.some 64), (.faddr 0 (.t 63)), .none⟩,
   ⟨(.some 65), (.load .false 1 (.t 64) .false), .none⟩,
   ⟨(.some 66), (.len (.t 65)), .none⟩,
   ⟨(.some 67), (.bin .rem (.t 61) (.t 66)), .none⟩,
   ⟨(.some 68), (.iaddr 1 (.t 57) (.t 67)), .none⟩,
   ⟨(.some 69), (.load .false 1 (.t 68) .false), .none⟩,
   ⟨(.some 70), (.cvtF .f64 (.t 69)), .none⟩,
   ⟨(.some 71), (.faddr 1 (.t 5)), .none⟩,
   ⟨.none, (.store 1 (.t 71) (.t 70)), .none⟩])
 c25_17)
abbrev c25_15 : PCode :=
 (.cond (.t 53)
  c25_16
  .skip)
abbrev c25_24 : PCode :=
 (.exit 0)
abbrev c25_23 : PCode :=
 (.cond (.t 89)
  .skip
  c25_24)
abbrev c25_26 : PCode :=
 (.region [⟨(.some 90), (.mov (.t 7)), .none⟩,
   ⟨(.some 91), (.bin .add (.t 90) (.c (.d (.int .i64 1)))), .none⟩,
   ⟨(.some 7), (.mov (.t 91)), .none⟩])
abbrev c25_25 : PCode :=
 (.seq (.block 1 (.region [⟨(.some 92), (.faddr 2 (.t 5)), .none⟩,
   ⟨(.some 93), (.load .false 1 (.t 92) .false), .none⟩,
   ⟨(.some 94), (.mov (.t 7)), .none⟩,
   ⟨(.some 95), (.bin .rem (.t 94) (.c (.d (.int .i64 26)))), .none⟩,
   ⟨(.some 96), (.mov (.t 7)), .none⟩,
   ⟨(.some 97), (.bin .rem (.t 96) (.c (.d (.int .i64 26)))), .none⟩,
   ⟨(.some 98), (.bin .add (.t 97) (.c (.d (.int .i64 1)))), .none⟩,
   ⟨(.some 99), (.slcS (.c (.d (.str (bs [97, 98, 99, 100, 101, 102, 103, 104, 105, 106, 107, 108, 109, 110, 111, 112, 113, 114, 115, 116, 117, 118, 119, 120, 121, 122])))) (.some (.t 95)) (.some (.t 98))), .none⟩,
   ⟨(.some 100), (.bin .add (.t 93) (.t 99)), .none⟩,
   ⟨(.some 101), (.faddr 2 (.t 5)), .none⟩,
   ⟨.none, (.store 1 (.t 101) (.t 100)), .none⟩]))
 c25_26)
abbrev c25_22 : PCode :=
 (.block 0 (.loop (.some [7, 0, 3, 4, 5, 6]) (.seq (.seq (.region [⟨(.some 87), (.mov (.t 7)), .none⟩,
   ⟨(.some 88), (.mov (.t 6)), .none⟩,
   ⟨(.some 89), (.bin .lss (.t 87) (.t 88)), .none⟩])
 c25_23)
 c25_25)))
abbrev c25_21 : PCode :=
 (.keep [0, 3, 4, 5, 6] (.seq (.region [⟨(.some 7), (.mov (.c (.d (.int .i64 0)))), .none⟩])
 c25_22))
abbrev c25_20 : PCode :=
 (.seq (.region [⟨(.some 82), (.mov (.t 0)), .none⟩,
   ⟨(.some 83), (.faddr 1 (.t 3)), .none⟩,
   ⟨(.some 84), (.load .false 1 (.t 83) .false), .none⟩,
   ⟨(.some 85), (.bin .add (.t 84) (.c (.d (.int .i64 1)))), .none⟩,
   ⟨(.some 86), (.call0 45 [(.t 82), (.t 85)]), .none⟩,
   ⟨(.some 6), (.mov (.t 86)), .none⟩])
 c25_21)
abbrev c25_19 : PCode :=
 (.cond (.t 81)
  c25_20
  .skip)
abbrev c25_32 : PCode :=
 (.region [⟨(.some 118), (.faddr 1 (.t 3)), .none⟩,
   ⟨(.some 119), (.load .false 1 (.t 118) .false), .none⟩,
   ⟨(.some 8), (.mov (.t 119)), .none⟩])
abbrev c25_31 : PCode :=
 (.cond (.t 117)
  c25_32
  .skip)
abbrev c25_36 : PCode :=
 (.exit 2)
abbrev c25_35 : PCode :=
 (.cond (.t 122)
  .skip
  c25_36)
abbrev c25_38 : PCode :=
 (.region [⟨(.some 123), (.mov (.t 9)), .none⟩,
   ⟨(.some 124), (.bin .add (.t 123) (.c (.d (.int .i64 1)))), .none⟩,
   ⟨(.some 9), (.mov (.t 124)), .none⟩])
abbrev c25_37 : PCode :=
 (.seq (.block 3 (.region [⟨(.some 125), (.faddr 3 (.t 5)), .none⟩,
   ⟨(.some 126), (.load .false 1 (.t 125) .true), .none⟩,
   ⟨(.some 127), (.mov (.t 0)), .none⟩,
   ⟨(.some 128), (.faddr 3 (.t 3)), .none⟩,
   ⟨(.some 129), (.load .false 1 (.t 128) .true), .none⟩,
   ⟨(.some 130), (.iaddr 4 (.t 129) (.c (.d (.int .i64 0)))), .none⟩,
   ⟨(.some 131), (.load .true 4 (.t 130) .true), .none⟩,
   ⟨(.some 132), (.call 25 [(.t 127), (.t 131)]), .none⟩,
   ⟨(.some 133), (.bsl 4 [(.t 132)]), .none⟩,
   ⟨(.some 134), (.app 4 56 (.t 126) (.t 133)), .none⟩,
   ⟨(.some 135), (.faddr 3 (.t 5)), .none⟩,
   ⟨.none, (.storeo 1 (.t 135) (.t 134)), .none⟩]))
 c25_38)
abbrev c25_34 : PCode :=
 (.block 2 (.loop (.some [9, 0, 3, 4, 5, 8]) (.seq (.seq (.region [⟨(.some 120), (.mov (.t 9)), .none⟩,
   ⟨(.some 121), (.mov (.t 8)), .none⟩,
   ⟨(.some 122), (.bin .lss (.t 120) (.t 121)), .none⟩])
 c25_35)
 c25_37)))
abbrev c25_33 : PCode :=
 (.keep [0, 3, 4, 5, 8] (.seq (.region [⟨(.some 9), (.mov (.c (.d (.int .i64 0)))), .none⟩])
 c25_34))
abbrev c25_30 : PCode :=
 (.keep [0, 3, 4, 5, 8] (.seq (.seq (.region [⟨(.some 114), (.mov (.t 8)), .none⟩,
   ⟨(.some 115), (.faddr 1 (.t 3)), .none⟩,
   ⟨(.some 116), (.load .false 1 (.t 115) .false), .none⟩,
   ⟨(.some 117), (.bin .gtr (.t 114) (.t 116)), .none⟩])
 c25_31)
 c25_33))
abbrev c25_29 : PCode :=
 (.seq (.region [⟨(.some 112), (.mov (.t 0)), .none⟩,
   ⟨(.some 113), (.call0 45 [(.t 112), (.c (.d (.int .i64 4)))]), .none⟩,
   ⟨(.some 8), (.mov (.t 113)), .none⟩])
 c25_30)
abbrev c25_28 : PCode :=
 (.cond (.t 111)
  c25_29
  .skip)
abbrev c25_44 : PCode :=
 (.exit 4)
abbrev c25_43 : PCode :=
 (.cond (.t 143)
  .skip
  c25_44)
abbrev c25_46 : PCode :=
 (.region [⟨(.some 144), (.mov (.t 10)), .none⟩,
   ⟨(.some 145), (.bin .add (.t 144) (.c (.d (.int .i64 1)))), .none⟩,
   ⟨(.some 10), (.mov (.t 145)), .none⟩])
abbrev c25_45 : PCode :=
 (.seq (.block 5 (.region [⟨(.some 146), (.faddr 3 (.t 5)), .none⟩,
   ⟨(.some 147), (.load .false 1 (.t 146) .true), .none⟩,
   ⟨(.some 148), (.mov (.t 0)), .none⟩,
   ⟨(.some 149), (.faddr 3 (.t 3)), .none⟩,
   ⟨(.some 150), (.load .false 1 (.t 149) .true), .none⟩,
   ⟨(.some 151), (.mov (.t 10)), .none⟩,
   ⟨(.some 152), (.iaddr 4 (.t 150) (.t 151)), .none⟩,
   ⟨(.some 153), (.load .true 4 (.t 152) .true), .none⟩,
   ⟨(.some 154), (.call 25 [(.t 148), (.t 153)]), .none⟩,
   ⟨(.some 155), (.bsl 4 [(.t 154)]), .none⟩,
   ⟨(.some 156), (.app 4 56 (.t 147) (.t 155)), .none⟩,
   ⟨(.some 157), (.faddr 3 (.t 5)), .none⟩,
   ⟨.none, (.storeo 1 (.t 157) (.t 156)), .none⟩]))
 c25_46)
abbrev c25_42 : PCode :=
 (.block 4 (.loop (.some [10, 0, 3, 4, 5]) (.seq (.seq (.region [⟨(.some 139), (.mov (.t 10)), .none⟩,
   ⟨(.some 140), (.faddr 3 (.t 3)), .none⟩,
   ⟨(.some 141), (.load .false 1 (.t 140) .false), .none⟩,
   ⟨(.some 142), (.len (.t 141)), .none⟩,
   ⟨(.some 143), (.bin .lss (.t 139) (.t 142)), .none⟩])
 c25_43)
 c25_45)))
abbrev c25_41 : PCode :=
 (.seq (.region [⟨(.some 10), (.mov (.c (.d (.int .i64 0)))), .none⟩])
 c25_42)
abbrev c25_40 : PCode :=
 (.cond (.t 138)
  c25_41
  .skip)
abbrev c25_49 : PCode :=
 (.region [⟨(.some 161), (.mov (.t 0)), .none⟩,
   ⟨(.some 162), (.faddr 2 (.t 3)), .none⟩,
   ⟨(.some 163), (.load .false 1 (.t 162) .false), .none⟩,
   ⟨(.some 164), (.call0 45 [(.t 161), (.t 163)]), .none⟩,
   ⟨(.some 165), (.faddr 0 (.t 5)), .none⟩,
   ⟨.none, (.store 1 (.t 165) (.t 164)), .none⟩])
abbrev c25_48 : PCode :=
 (.cond (.t 160)
  c25_49
  .skip)
abbrev c25_53 : PCode :=
 (.keep [0, 3, 4, 5] (.region [⟨(.some 175), (.mov (.t 0)), .none⟩,
   ⟨(.some 176), (.faddr 3 (.t 3)), .none⟩,
   ⟨(.some 177), (.load .false 1 (.t 176) .false), .none⟩,
   ⟨(.some 178), (.faddr 0 (.t 5)), .none⟩,
   ⟨(.some 179), (.load .false 1 (.t 178) .false), .none⟩,
   ⟨(.some 180), (.iaddr 4 (.t 177) (.t 179)), .none⟩,
   ⟨(.some 181), (.load .true 4 (.t 180) .false), .none⟩,
   ⟨(.some 182), (.call0 25 [(.t 175), (.t 181)]), .none⟩,
   ⟨(.some 183), (.bsl 4 [(.t 182)]), .none⟩,
   ⟨(.some 184), (.faddr 3 (.t 5)), .none⟩,
   ⟨.none, (.store 1 (.t 184) (.t 183)), .none⟩]))
abbrev c25_52 : PCode :=
 (.seq (.region [⟨(.some 169), (.mov (.t 0)), .none⟩,
   ⟨(.some 170), (.faddr 3 (.t 3)), .none⟩,
   ⟨(.some 171), (.load .false 1 (.t 170) .false), .none⟩,
   ⟨(.some 172), (.len (.t 171)), .none⟩,
   ⟨(.some 173), (.call0 45 [(.t 169), (.t 172)]), .none⟩,
   ⟨(.some 174), (.faddr 0 (.t 5)), .none⟩,
   ⟨.none, (.store 1 (.t 174) (.t 173)), .none⟩])
 c25_53)
abbrev c25_51 : PCode :=
 (.cond (.t 168)
  c25_52
  .skip)
abbrev c25_54 : PCode :=
 (.keep [4, 5] (.seq (.region [⟨(.some 185), (.load .true 4 (.t 5) .false), .none⟩,
   ⟨.none, (.store 4 (.t 4) (.t 185)), .none⟩])
 .ret))
abbrev c25_50 : PCode :=
 (.keep [0, 3, 4, 5] (.seq (.seq (.region [⟨(.some 166), (.faddr 0 (.t 3)), .none⟩,
   ⟨(.some 167), (.load .false 1 (.t 166) .false), .none⟩,
   ⟨(.some 168), (.bin .eql (.t 167) (.c (.d (.int .i64 8)))), .none⟩])
 c25_51)
 c25_54))
abbrev c25_47 : PCode :=
 (.keep [0, 3, 4, 5] (.seq (.seq (.region [⟨(.some 158), (.faddr 0 (.t 3)), .none⟩,
   ⟨(.some 159), (.load .false 1 (.t 158) .false), .none⟩,
   ⟨(.some 160), (.bin .eql (.t 159) (.c (.d (.int .i64 7)))), .none⟩])
 c25_48)
 c25_50))
abbrev c25_39 : PCode :=
 (.keep [0, 3, 4, 5] (.seq (.seq (.region [⟨(.some 136), (.faddr 0 (.t 3)), .none⟩,
   ⟨(.some 137), (.load .false 1 (.t 136) .false), .none⟩,
   ⟨(.some 138), (.bin .eql (.t 137) (.c (.d (.int .i64 6)))), .none⟩])
 c25_40)
 c25_47))
abbrev c25_27 : PCode :=
 (.keep [0, 3, 4, 5] (.seq (.seq (.region [⟨(.some 102), (.faddr 0 (.t 3)), .none⟩,
   ⟨(.some 103), (.load .false 1 (.t 102) .false), .none⟩,
   ⟨(.some 104), (.bin .eql (.t 103) (.c (.d (.int .i64 5)))), .none⟩,
   ⟨(.some 105), (.mov (.t 104)), .none⟩,
   ⟨(.some 106), (.mov (.t 0)), (.some (105, .true))⟩,
   ⟨(.some 107), (.nilchk (.t 106)), (.some (105, .true))⟩,
   ⟨(.some 108), (.faddr 2 (.t 107)), (.some (105, .true))⟩,
   ⟨(.some 109), (.load .false 1 (.t 108) .false), (.some (105, .true))⟩,
   ⟨(.some 110), (.bin .leq (.t 109) (.c (.d (.int .i64 100)))), (.some (105, .true))⟩,
   ⟨(.some 111), (.pick (.t 105) (.t 110) (.c (.d (.bool .false)))), .none⟩])
 c25_28)
 c25_39))
abbrev c25_18 : PCode :=
 (.keep [0, 3, 4, 5] (.seq (.seq (.region [⟨(.some 79), (.faddr 0 (.t 3)), .none⟩,
   ⟨(.some 80), (.load .false 1 (.t 79) .false), .none⟩,
   ⟨(.some 81), (.bin .eql (.t 80) (.c (.d (.int .i64 4)))), .none⟩])
 c25_19)
 c25_27))
abbrev c25_14 : PCode :=
 (.keep [0, 3, 4, 5] (.seq (.seq (.region [⟨(.some 43), (.faddr 0 (.t 3)), .none⟩,
   ⟨(.some 44), (.load .false 1 (.t 43) .false), .none⟩,
   ⟨(.some 45), (.bin .eql (.t 44) (.c (.d (.int .i64 3)))), .none⟩,
   ⟨(.some 46), (.mov (.t 45)), .none⟩,
   ⟨(.some 47), (.mov (.t 0)), (.some (46, .true))⟩,
   ⟨(.some 48), (.nilchk (.t 47)), (.some (46, .true))⟩,
   ⟨(.some 49), (.faddr 0 (.t 48)), (.some (46, .true))⟩,
   ⟨(.some 50), (.load .false 1 (.t 49) .false), (.some (46, .true))⟩,
   ⟨(.some 51), (.len (.t 50)), (.some (46, .true))⟩,
   ⟨(.some 52), (.bin .gtr (.t 51) (.c (.d (.int .i64 0)))), (.some (46, .true))⟩,
   ⟨(.some 53), (.pick (.t 46) (.t 52) (.c (.d (.bool .false)))), .none⟩])
 c25_15)
 c25_18))
abbrev c25_8 : PCode :=
 (.keep [0, 3, 4, 5] (.seq (.seq (.region [⟨(.some 30), (.faddr 0 (.t 3)), .none⟩,
   ⟨(.some 31), (.load .false 1 (.t 30) .false), .none⟩,
   ⟨(.some 32), (.bin .eql (.t 31) (.c (.d (.int .i64 2)))), .none⟩])
 c25_9)
 c25_14))
abbrev c25_5 : PCode :=
 (.keep [0, 3, 4, 5] (.seq (.seq (.region [⟨(.some 24), (.faddr 0 (.t 3)), .none⟩,
   ⟨(.some 25), (.load .false 1 (.t 24) .false), .none⟩,
   ⟨(.some 26), (.bin .eql (.t 25) (.c (.d (.int .i64 1)))), .none⟩])
 c25_6)
 c25_8))
abbrev c25_2 : PCode :=
 (.seq (.seq (.region [⟨(.some 18), (.faddr 0 (.t 3)), .none⟩,
   ⟨(.some 19), (.load .false 1 (.t 18) .false), .none⟩,
   ⟨(.some 20), (.bin .eql (.t 19) (.c (.d (.int .i64 0)))), .none⟩])
 c25_3)
 c25_5)
abbrev c25_1 : PCode :=
 (.keep [0, 3, 4] (.seq (.region [⟨(.some 5), (.alloc [(.d (.int .i64 0)), (.d (.flt .f64 0)), (.d (.str (bs []))), (.full [])]), .none⟩])
 c25_2))
abbrev c25_0 : PCode :=
 (.seq (.region [⟨(.some 11), (.mov (.t 0)), .none⟩,
   ⟨(.some 12), (.nilchk (.t 11)), .none⟩,
   ⟨(.some 13), (.faddr 2 (.t 12)), .none⟩,
   ⟨(.some 14), (.load .false 1 (.t 13) .false), .none⟩,
   ⟨(.some 15), (.bin .add (.t 14) (.c (.d (.int .i64 1)))), .none⟩,
   ⟨(.some 16), (.nilchk (.t 11)), .none⟩,
   ⟨(.some 17), (.faddr 2 (.t 16)), .none⟩,
   ⟨.none, (.store 1 (.t 17) (.t 15)), .none⟩])
 c25_1)
def c25 : PFun := ⟨
 (.seq (.region [⟨(.some 3), (.box 4 (.t 1)), .none⟩,
   ⟨(.some 4), (.alloc [(.d (.int .i64 0)), (.d (.flt .f64 0)), (.d (.str (bs []))), (.full [])]), .none⟩])
 c25_0),
 2, 186, [(.cell 4 .true 4)]⟩

theorem e25 : entered Try.prog 25 = true := by kernel_rfl
theorem k25 : compFun Try.prog (fun i => if i = 27 then 6 else if i = 32 then 6 else 0) 25 = some c25.er := by kernel_rfl


theorem box_sat (pm : Nat) (l l' : List AV) : Sat [.box pm l] (fun _ : Unit => [.box pm l']) := fun _ => ⟨(), fun x hx => by
  rw [List.mem_singleton.1 hx]
  exact .inl ⟨_, List.mem_cons_self, _, rfl⟩, by simp⟩
theorem wrap32 (n : Int) (hn : -9223372036854775808 ≤ n ∧ n ≤ 9223372036854775807) : IntKind.i64.wrap (IntKind.i32.wrap n) = if n % 4294967296 ≥ 2147483648 then n % 4294967296 - 4294967296 else n % 4294967296 := by
  rw [IntKind.wrap_i64, IntKind.wrap_i32]
  split <;> omega
theorem letters_succ (j : Nat) : letters (j + 1) = letters j ++ bs [97 + j % 26] := by
  apply ByteArray.ext
  rw [ByteArray.data_append]
  simp [letters, bs, List.range_succ]
theorem alpha_at : ∀ i : Fin 26, (bs [97, 98, 99, 100, 101, 102, 103, 104, 105, 106, 107, 108, 109, 110, 111, 112, 113, 114, 115, 116, 117, 118, 119, 120, 121, 122]).extract i.val (i.val + 1) = bs [97 + i.val] := by decide +kernel
theorem alpha_app (j : Nat) : letters j ++ (bs [97, 98, 99, 100, 101, 102, 103, 104, 105, 106, 107, 108, 109, 110, 111, 112, 113, 114, 115, 116, 117, 118, 119, 120, 121, 122]).extract (j % 26) (j % 26 + 1) = letters (j + 1) := by
  rw [letters_succ, alpha_at ⟨j % 26, Nat.mod_lt _ (by decide)⟩]
theorem refBuildC (l : List Int) (hl : l.length < 2 ^ 40) (hr : ∀ x ∈ l, -9223372036854775808 ≤ x ∧ x ≤ 9223372036854775807) (pm : Nat) : ∀ (e : Nat) (T : KT) (a m : Nat), WT e T → a ≤ m → m + cost e T < 2 ^ 60 →
    CL (PCalls Try.prog GG) 25 [ptrAt pm, T.rav] [.box pm [.d (i64s l), i64 a, i64 m]] (fun _ : Unit => (buildM l e T a m).v.av) (fun _ => [.box pm [.d (i64s l), i64 (buildM l e T a m).at_, i64 (buildM l e T a m).made]]) := by
  intro e
  induction e with
  | zero => intro T a m h; cases h
  | succ d ih =>
  intro T a m hw ham hcost
  have hc1 : 1 ≤ cost (d + 1) T := by simp only [cost]; omega
  refine ⟨box_sat _ _ _, ?_⟩
  have hn := nextN_in hr a
  cases hw with
  | base _ k hk =>
    have : k = 0 ∨ k = 1 ∨ k = 2 ∨ k = 3 := by omega
    rcases this with rfl | rfl | rfl | rfl
    · simp only [buildM_0 (t := .mk 0 0 [] []) rfl, VT.av_eq, VT.num, VT.pj, KT.rav_eq, KT.pj, List.length_nil, List.map_nil, List.map_cons]
      intro st t hL; refine pcalls_of k25 e25 (of_decide_eq_true rfl) ?_; dsimp only [c25]; generalize hQ : pfin _ _ = Q
      (refine gor hL ?_; (repeat (clear hL; intro t hL; refine gor hL ?_))); refine po_boxA hL ?_; clear hL; intro p3 t hL
      (refine gor hL ?_; (repeat (clear hL; intro t hL; refine gor hL ?_))); (with_reducible refine po_allocL hL rfl ?_); clear hL; intro p4 t hL
      refine gor hL ?_; (repeat (clear hL; intro t hL; refine gor hL ?_))
      rw [IntWalk.i64_in ((m : Int) + 1) (by omega), show (m : Int) + 1 = ((m + 1 : Nat) : Int) from rfl] at hL
      (refine gor hL ?_; (repeat (clear hL; intro t hL; refine gor hL ?_))); (with_reducible refine po_allocL hL rfl ?_); clear hL; intro p5 t hL
      refine gor hL ?_; (repeat (clear hL; intro t hL; refine gor hL ?_)); (repeat (refine pseqk ?_; refine gor hL ?_; (repeat (clear hL; intro t hL; refine gor hL ?_))))
      refine po_callK hL (nextRC l hl hr a (by omega) 2 (by omega) (i64 (m + 1 : Nat)) pm) ?_; clear hL; intro _ t hL
      refine gor hL ?_; (repeat (clear hL; intro t hL; refine gor hL ?_)); (repeat (refine pseqk ?_; refine gor hL ?_; (repeat (clear hL; intro t hL; refine gor hL ?_))))
      rw [← hQ]
      exact pfinK () (pret_one (pres_cellL hL rfl (by repeat (first | exact Rem.head | apply Rem.tail)) rfl)) (.inr rfl) hL
    · simp only [buildM_1 (t := .mk 1 0 [] []) rfl, VT.av_eq, VT.num, VT.pj, KT.rav_eq, KT.pj, List.length_nil, List.map_nil, List.map_cons]
      intro st t hL; refine pcalls_of k25 e25 (of_decide_eq_true rfl) ?_; dsimp only [c25]; generalize hQ : pfin _ _ = Q
      (refine gor hL ?_; (repeat (clear hL; intro t hL; refine gor hL ?_))); refine po_boxA hL ?_; clear hL; intro p3 t hL
      (refine gor hL ?_; (repeat (clear hL; intro t hL; refine gor hL ?_))); (with_reducible refine po_allocL hL rfl ?_); clear hL; intro p4 t hL
      refine gor hL ?_; (repeat (clear hL; intro t hL; refine gor hL ?_))
      rw [IntWalk.i64_in ((m : Int) + 1) (by omega), show (m : Int) + 1 = ((m + 1 : Nat) : Int) from rfl] at hL
      (refine gor hL ?_; (repeat (clear hL; intro t hL; refine gor hL ?_))); (with_reducible refine po_allocL hL rfl ?_); clear hL; intro p5 t hL
      refine gor hL ?_; (repeat (clear hL; intro t hL; refine gor hL ?_)); (repeat (refine pseqk ?_; refine gor hL ?_; (repeat (clear hL; intro t hL; refine gor hL ?_))))
      refine po_callK hL (nextRC l hl hr a (by omega) 65536 (by omega) (i64 (m + 1 : Nat)) pm) ?_; clear hL; intro _ t hL
      refine gor hL ?_; (repeat (clear hL; intro t hL; refine gor hL ?_)); (repeat (refine pseqk ?_; refine gor hL ?_; (repeat (clear hL; intro t hL; refine gor hL ?_))))
      rw [← hQ]
      exact pfinK () (pret_one (pres_cellL hL rfl (by repeat (first | exact Rem.head | apply Rem.tail)) rfl)) (.inr rfl) hL
    · simp only [buildM_2 (t := .mk 2 0 [] []) rfl, VT.av_eq, VT.num, VT.pj, KT.rav_eq, KT.pj, List.length_nil, List.map_nil, List.map_cons]
      rw [wrap32 _ hn]
      intro st t hL; refine pcalls_of k25 e25 (of_decide_eq_true rfl) ?_; dsimp only [c25]; generalize hQ : pfin _ _ = Q
      (refine gor hL ?_; (repeat (clear hL; intro t hL; refine gor hL ?_))); refine po_boxA hL ?_; clear hL; intro p3 t hL
      (refine gor hL ?_; (repeat (clear hL; intro t hL; refine gor hL ?_))); (with_reducible refine po_allocL hL rfl ?_); clear hL; intro p4 t hL
      refine gor hL ?_; (repeat (clear hL; intro t hL; refine gor hL ?_))
      rw [IntWalk.i64_in ((m : Int) + 1) (by omega), show (m : Int) + 1 = ((m + 1 : Nat) : Int) from rfl] at hL
      (refine gor hL ?_; (repeat (clear hL; intro t hL; refine gor hL ?_))); (with_reducible refine po_allocL hL rfl ?_); clear hL; intro p5 t hL
      refine gor hL ?_; (repeat (clear hL; intro t hL; refine gor hL ?_)); (repeat (refine pseqk ?_; refine gor hL ?_; (repeat (clear hL; intro t hL; refine gor hL ?_))))
      refine po_callK hL (nextRC l hl hr a (by omega) 4294967296 (by omega) (i64 (m + 1 : Nat)) pm) ?_; clear hL; intro _ t hL
      refine gor hL ?_; (repeat (clear hL; intro t hL; refine gor hL ?_)); (repeat (refine pseqk ?_; refine gor hL ?_; (repeat (clear hL; intro t hL; refine gor hL ?_))))
      refine pcond_b rfl (fun h => ?_) (fun h => ?_)
      · have h' : nextN l a % 4294967296 ≥ 2147483648 := by simpa using h
        refine gor hL ?_; (repeat (clear hL; intro t hL; refine gor hL ?_)); (repeat (refine pseqk ?_; refine gor hL ?_; (repeat (clear hL; intro t hL; refine gor hL ?_))))
        rw [IntWalk.i64_in (nextN l a % 4294967296 - 4294967296) (by omega)] at hL
        rw [if_pos h'] at hQ
        rw [← hQ]
        exact pfinK () (pret_one (pres_cellL hL rfl (by repeat (first | exact Rem.head | apply Rem.tail)) rfl)) (.inr rfl) hL
      · have h' : ¬ nextN l a % 4294967296 ≥ 2147483648 := by simpa using h
        refine gor hL ?_; (repeat (clear hL; intro t hL; refine gor hL ?_)); (repeat (refine pseqk ?_; refine gor hL ?_; (repeat (clear hL; intro t hL; refine gor hL ?_))))
        rw [if_neg h'] at hQ
        rw [← hQ]
        exact pfinK () (pret_one (pres_cellL hL rfl (by repeat (first | exact Rem.head | apply Rem.tail)) rfl)) (.inr rfl) hL
    · simp only [buildM_3 (t := .mk 3 0 [] []) rfl, VT.av_eq, VT.num, VT.pj, KT.rav_eq, KT.pj, List.length_nil, List.map_nil, List.map_cons]
      intro st t hL; refine pcalls_of k25 e25 (of_decide_eq_true rfl) ?_; dsimp only [c25]; generalize hQ : pfin _ _ = Q
      (refine gor hL ?_; (repeat (clear hL; intro t hL; refine gor hL ?_))); refine po_boxA hL ?_; clear hL; intro p3 t hL
      (refine gor hL ?_; (repeat (clear hL; intro t hL; refine gor hL ?_))); (with_reducible refine po_allocL hL rfl ?_); clear hL; intro p4 t hL
      refine gor hL ?_; (repeat (clear hL; intro t hL; refine gor hL ?_))
      rw [IntWalk.i64_in ((m : Int) + 1) (by omega), show (m : Int) + 1 = ((m + 1 : Nat) : Int) from rfl] at hL
      (refine gor hL ?_; (repeat (clear hL; intro t hL; refine gor hL ?_))); (with_reducible refine po_allocL hL rfl ?_); clear hL; intro p5 t hL
      refine gor hL ?_; (repeat (clear hL; intro t hL; refine gor hL ?_)); (repeat (refine pseqk ?_; refine gor hL ?_; (repeat (clear hL; intro t hL; refine gor hL ?_))))
      refine pcond_b rfl (fun h => ?_) (fun h => ?_)
      · have h' : l.length ≠ 0 := by
          intro e
          simp [e] at h
        have hlt : a % l.length < l.length := Nat.mod_lt _ (by omega)
        have hy : l[a % l.length]? = some (nextN l a) := by
          rw [nextN, if_neg h', List.getD_eq_getElem?_getD, List.getElem?_eq_getElem hlt]; rfl
        have e2 : nextA l a = a + 1 := by rw [nextA, if_neg h']
        rw [e2] at hQ
        refine gor hL ?_; (repeat (clear hL; intro t hL; refine gor hL ?_))
        refine po_remN rfl rfl h' ?_
        refine gor hL ?_; (repeat (clear hL; intro t hL; refine gor hL ?_)); (repeat (refine pseqk ?_; refine gor hL ?_; (repeat (clear hL; intro t hL; refine gor hL ?_))))
        rw [IntWalk.i64_in ((a : Int) + 1) (by omega), show (a : Int) + 1 = ((a + 1 : Nat) : Int) from rfl] at hL
        rw [← hQ]
        exact pfinK () (pret_one (pres_cellL hL rfl (by repeat (first | exact Rem.head | apply Rem.tail)) rfl)) (.inr rfl) hL
      · have h' : l.length = 0 := by
          have : ¬ ((l.length : Int) > 0) := by simpa using h
          omega
        have e1 : nextN l a = 0 := by rw [nextN, if_pos h']
        have e2 : nextA l a = a := by rw [nextA, if_pos h']
        rw [e1, e2, show FloatKind.f64.nearest 0 = 0 by decide +kernel] at hQ
        refine gor hL ?_; (repeat (clear hL; intro t hL; refine gor hL ?_)); (repeat (refine pseqk ?_; refine gor hL ?_; (repeat (clear hL; intro t hL; refine gor hL ?_))))
        rw [← hQ]
        exact pfinK () (pret_one (pres_cellL hL rfl (by repeat (first | exact Rem.head | apply Rem.tail)) rfl)) (.inr rfl) hL
  | text _ mo hm =>
    simp only [buildM_4 (t := .mk 4 mo [] []) rfl, VT.av_eq, VT.num, VT.pj, KT.rav_eq, KT.pj, List.length_nil, List.map_nil, List.map_cons]
    intro st t hL; refine pcalls_of k25 e25 (of_decide_eq_true rfl) ?_; dsimp only [c25]; generalize hQ : pfin _ _ = Q
    (refine gor hL ?_; (repeat (clear hL; intro t hL; refine gor hL ?_))); refine po_boxA hL ?_; clear hL; intro p3 t hL
    (refine gor hL ?_; (repeat (clear hL; intro t hL; refine gor hL ?_))); (with_reducible refine po_allocL hL rfl ?_); clear hL; intro p4 t hL
    refine gor hL ?_; (repeat (clear hL; intro t hL; refine gor hL ?_))
    rw [IntWalk.i64_in ((m : Int) + 1) (by omega), show (m : Int) + 1 = ((m + 1 : Nat) : Int) from rfl] at hL
    (refine gor hL ?_; (repeat (clear hL; intro t hL; refine gor hL ?_))); (with_reducible refine po_allocL hL rfl ?_); clear hL; intro p5 t hL
    refine gor hL ?_; (repeat (clear hL; intro t hL; refine gor hL ?_)); (repeat (refine pseqk ?_; refine gor hL ?_; (repeat (clear hL; intro t hL; refine gor hL ?_))))
    refine gnm ?_; rw [IntWalk.i64_in (mo + 1) (by omega)]
    refine po_callK hL (nextRC l hl hr a (by omega) (mo + 1) (by omega) (i64 (m + 1 : Nat)) pm) ?_; clear hL; intro _ t hL
    refine gor hL ?_; (repeat (clear hL; intro t hL; refine gor hL ?_)); (repeat (refine pseqk ?_; refine gor hL ?_; (repeat (clear hL; intro t hL; refine gor hL ?_))))
    have hn1 := Int.emod_lt_of_pos (nextN l a) (show (0 : Int) < mo + 1 by omega)
    have hn2 := Int.emod_nonneg (nextN l a) (show (mo + 1 : Int) ≠ 0 by omega)
    rw [show min (max mo 0) 9223372036854775806 + 1 = mo + 1 by omega] at hQ
    generalize nextN l a % (mo + 1) = n at *
    obtain ⟨k, rfl⟩ : ∃ k : Nat, n = k := ⟨n.toNat, by omega⟩
    rw [show (min (k : Int) 60).toNat = k by omega] at hQ
    refine pblock (pupA k (fun j s u => s = put (put (put (put (put (put (fun _ => .undef) (some 6) (i64 k)) (some 5) (ptrAt p5)) (some 4) (ptrAt p4)) (some 3) (ptrAt p3)) (some 0) (ptrAt pm)) (some 7) (i64 j) ∧ Lay st [.box p5 [.d (.int .i64 0), .d (.flt .f64 0), .d (.str (letters j)), .full []], .box pm [.d (i64s l), i64 (nextA l a), i64 (m + 1 : Nat)], .box p4 [.d (.int .i64 0), .d (.flt .f64 0), .d (.str (bs [])), .full []], .box p3 [.d (.int .i64 4), .d (.int .i64 mo), .d (.int .i64 (0 : Nat)), .d (.sl [])]] u) ⟨trimA, hL.pk⟩ ?_)
    clear hL
    rintro j s t hj ⟨rfl, hL⟩
    refine gor hL ?_; (repeat (clear hL; intro t hL; refine gor hL ?_))
    refine pcond_b rfl (fun h => ?_) (fun h => ?_)
    · have hj' : j < k := by simpa using h
      refine gor hL ?_; (repeat (clear hL; intro t hL; refine gor hL ?_))
      refine pblock ?_
      refine gor hL ?_; (repeat (clear hL; intro t hL; refine gor hL ?_))
      have e1 : (j : Int).tmod 26 = ((j % 26 : Nat) : Int) := by rw [IntWalk.rem_in _ _ (by omega)]; omega
      refine gnm ?_; rw [e1, IntWalk.i64_in (((j % 26 : Nat) : Int) + 1) (by omega), show ((j % 26 : Nat) : Int) + 1 = ((j % 26 + 1 : Nat) : Int) from rfl]
      refine po rfl (slc_str rfl rfl rfl (by omega) (by omega) (by show _ ≤ ((26 : Nat) : Int); omega)) ?_
      refine gor hL ?_; (repeat (clear hL; intro t hL; refine gor hL ?_))
      have hsz : ((bs [97, 98, 99, 100, 101, 102, 103, 104, 105, 106, 107, 108, 109, 110, 111, 112, 113, 114, 115, 116, 117, 118, 119, 120, 121, 122]).extract (j % 26) (j % 26 + 1)).size ≤ 26 := by
        rw [alpha_at ⟨j % 26, Nat.mod_lt _ (by decide)⟩]; show 1 ≤ 26; decide
      refine po rfl (str_add rfl rfl (by rw [letters_size, Int.toNat_natCast, Int.toNat_natCast]; omega)) ?_
      refine gor hL ?_; (repeat (clear hL; intro t hL; refine gor hL ?_))
      rw [Int.toNat_natCast, Int.toNat_natCast, alpha_app] at hL
      refine gor hL ?_; (repeat (clear hL; intro t hL; refine gor hL ?_))
      refine gnm ?_; rw [IntWalk.i64_in ((j : Int) + 1) (by omega)]
      exact ⟨hj', trimA, hL.pk⟩
    · have hj' : ¬ j < k := by simpa using h
      obtain rfl : j = k := by omega
      refine gor hL ?_; (repeat (clear hL; intro t hL; refine gor hL ?_)); (repeat (refine pseqk ?_; refine gor hL ?_; (repeat (clear hL; intro t hL; refine gor hL ?_))))
      rw [← hQ]
      exact pfinK () (pret_one (pres_cellL hL rfl (by repeat (first | exact Rem.head | apply Rem.tail)) rfl)) (.inr rfl) hL
  | seq _ mo o hm ho =>
    have hco : cost (d + 1) (.mk 5 mo [] [o]) = 1 + 4 * cost d o := by simp only [cost, KT.of, List.map_cons, List.map_nil, List.sum_cons, List.sum_nil]; omega
    rw [hco] at hcost
    by_cases hm1 : m + 1 ≤ 100
    · simp only [buildM_5 (t := .mk 5 mo [] [o]) rfl hm1, VT.av_eq, VT.num, VT.pj, KT.rav_eq, KT.pj, List.length_nil, List.map_nil, List.map_cons]
      intro st t hL; refine pcalls_of k25 e25 (of_decide_eq_true rfl) ?_; dsimp only [c25]; generalize hQ : pfin _ _ = Q
      (refine gor hL ?_; (repeat (clear hL; intro t hL; refine gor hL ?_))); refine po_boxA hL ?_; clear hL; intro p3 t hL
      (refine gor hL ?_; (repeat (clear hL; intro t hL; refine gor hL ?_))); (with_reducible refine po_allocL hL rfl ?_); clear hL; intro p4 t hL
      refine gor hL ?_; (repeat (clear hL; intro t hL; refine gor hL ?_))
      rw [IntWalk.i64_in ((m : Int) + 1) (by omega), show (m : Int) + 1 = ((m + 1 : Nat) : Int) from rfl] at hL
      (refine gor hL ?_; (repeat (clear hL; intro t hL; refine gor hL ?_))); (with_reducible refine po_allocL hL rfl ?_); clear hL; intro p5 t hL
      refine gor hL ?_; (repeat (clear hL; intro t hL; refine gor hL ?_)); (repeat (refine pseqk ?_; refine gor hL ?_; (repeat (clear hL; intro t hL; refine gor hL ?_))))
      refine pcond_b rfl (fun hq => ?_) (fun hq => ?_)
      · refine gor hL ?_; (repeat (clear hL; intro t hL; refine gor hL ?_)); (repeat (refine pseqk ?_; refine gor hL ?_; (repeat (clear hL; intro t hL; refine gor hL ?_))))
        refine po_callK hL (nextRC l hl hr a (by omega) 4 (by omega) (i64 (m + 1 : Nat)) pm) ?_; clear hL; intro _ t hL
        refine gor hL ?_; (repeat (clear hL; intro t hL; refine gor hL ?_))
        have hn1 := Int.emod_lt_of_pos (nextN l a) (show (0 : Int) < 4 by decide)
        have hn2 := Int.emod_nonneg (nextN l a) (show (4 : Int) ≠ 0 by decide)
        rw [show [o].getD 0 (.mk 0 0 [] []) = o from rfl] at hQ
        generalize nextN l a % 4 = n at *
        obtain ⟨k, hk⟩ : ∃ k : Nat, min (min n mo) (4 * (([o] : List KT).length : Int)) = k := ⟨(min (min n mo) (4 * (([o] : List KT).length : Int))).toNat, by simp; omega⟩
        have hk' : min n mo = k := by simp at hk; omega
        have hk3 : k ≤ 3 := by omega
        rw [hk, Int.toNat_natCast] at hQ
        refine pjoin (fun s u => s = put (put (put (put (put (fun _ => .undef) (some 8) (i64 k)) (some 5) (ptrAt p5)) (some 4) (ptrAt p4)) (some 3) (ptrAt p3)) (some 0) (ptrAt pm) ∧ u = t) ?_ ?_
        · refine gor hL ?_; (repeat (clear hL; intro t hL; refine gor hL ?_))
          refine pcond_b rfl (fun hmn => ?_) (fun hmn => ?_)
          · have hmn' : n > mo := by simpa using hmn
            refine gor hL ?_; (repeat (clear hL; intro t hL; refine gor hL ?_))
            refine gnm ?_; rw [show mo = (k : Int) by omega]
            exact ⟨tr2, trivial⟩
          · have hmn' : ¬ n > mo := by simpa using hmn
            refine gor hL ?_; (repeat (clear hL; intro t hL; refine gor hL ?_))
            refine gnm ?_; rw [show n = (k : Int) by omega]
            exact ⟨tr2, trivial⟩
        rintro s u ⟨rfl, rfl⟩
        refine gor hL ?_; (repeat (clear hL; intro t hL; refine gor hL ?_)); (repeat (refine pseqk ?_; refine gor hL ?_; (repeat (clear hL; intro t hL; refine gor hL ?_))))
        have hbd0 := fun j => foldB_bound (c := cost d) (f := buildM l d) (ts := List.replicate j o) (fun u _ a m h => buildM_bound l d u a m h) (nextA l a) (m + 1) (by have := nextA_le l a; omega)
        refine pblock (pupA k (fun j s u => ∃ v, s = put (put (put (put (put (put (fun _ => .undef) (some 8) (i64 k)) (some 5) (ptrAt p5)) (some 4) (ptrAt p4)) (some 3) (ptrAt p3)) (some 0) (ptrAt pm)) (some 9) (i64 j) ∧ Lay st [.box p5 [.d (.int .i64 0), .d (.flt .f64 0), .d (.str (bs [])), v], .vec v ((foldB (buildM l d) (List.replicate j o) (nextA l a) (m + 1)).1.map VT.row) 4, .box pm [.d (i64s l), i64 (foldB (buildM l d) (List.replicate j o) (nextA l a) (m + 1)).2.1, i64 (foldB (buildM l d) (List.replicate j o) (nextA l a) (m + 1)).2.2], .box p4 [.d (.int .i64 0), .d (.flt .f64 0), .d (.str (bs [])), .full []], .box p3 [.d (.int .i64 5), .d (.int .i64 mo), .d (.int .i64 (0 : Nat)), .d (.sl [o.rrow])]] u) ⟨.full [], trimA, (hL.full [] 4).pk⟩ ?_)
        clear hL
        rintro j s t hj ⟨v, rfl, hL⟩
        have hbd := hbd0 j
        rw [List.map_replicate, List.sum_replicate_nat] at hbd
        have hjc : j * cost d o ≤ 3 * cost d o := Nat.mul_le_mul_right _ (by omega)
        have hol := foldB_len (buildM l d) (List.replicate j o) (nextA l a) (m + 1)
        have hsn := foldB_snoc (buildM l d) (List.replicate j o) o (nextA l a) (m + 1)
        rw [← List.replicate_succ'] at hsn
        rw [List.length_replicate] at hol
        have fv := hL.vk v
        obtain ⟨fv_r, fv_w, fv_w1, fv_c, fv_s, fv_d⟩ := id fv
        refine gor hL ?_; (repeat (clear hL; intro t hL; refine gor hL ?_))
        refine pcond_b rfl (fun h => ?_) (fun h => ?_)
        · have hj' : j < k := by simpa using h
          rw [hsn]
          clear hsn
          generalize (foldB (buildM l d) (List.replicate j o) (nextA l a) (m + 1)) = F at *
          obtain ⟨os, A, M'⟩ := F
          simp only at hL hbd hol ⊢
          refine gor hL ?_; (repeat (clear hL; intro t hL; refine gor hL ?_))
          refine pblock ?_
          refine gor hL ?_; (repeat (clear hL; intro t hL; refine gor hL ?_))
          refine po_loadSt (H := [.box p5 [.d (.int .i64 0), .d (.flt .f64 0), .d (.str (bs [])), v], .box p3 [.d (.int .i64 5), .d (.int .i64 mo), .d (.int .i64 (0 : Nat)), .d (.sl [o.rrow])]]) (Stb.start _ (fun _ => .undef) t) hL rfl rfl (by repeat (first | exact Rem.head | apply Rem.tail)) (by (repeat (first | (with_reducible exact Pick.nil) | ((with_reducible apply Pick.cons); · (repeat (first | exact Rem.head | apply Rem.tail)))))) rfl (fun hS => ?_)
          refine gor hL ?_; (repeat (clear hL; intro t hL; refine gor hL ?_))
          refine po_loadSt hS hL rfl rfl (by repeat (first | exact Rem.head | apply Rem.tail)) (by (repeat (first | (with_reducible exact Pick.nil) | ((with_reducible apply Pick.cons); · (repeat (first | exact Rem.head | apply Rem.tail)))))) rfl (fun hS => ?_)
          refine gor hL ?_; (repeat (clear hL; intro t hL; refine gor hL ?_))
          refine po_iaddr0 (l := [o]) (f := KT.rrow) rfl (KT.rrow_len o) ?_
          refine gor hL ?_; (repeat (clear hL; intro t hL; refine gor hL ?_))
          have hc := ih o A M' ho hbd.1 (by omega)
          simp only [KT.rav_eq] at hc
          refine po_callStA hS hL (hc) ?_; clear hL; intro _ t hL hS
          rw [VT.av_eq]
          refine gor hL ?_; (repeat (clear hL; intro t hL; refine gor hL ?_))
          have hr4 : ∀ r ∈ os.map VT.row, r.length = 4 := fun r hr => by
            obtain ⟨i, _, rfl⟩ := List.mem_map.1 hr; exact VT.row_len _
          refine po_appA hL hr4 ?_ ?_; (· simp; omega); clear hL; intro v' t f' hL; obtain ⟨f'_r, f'_w, f'_w1, f'_c, f'_s, f'_d⟩ := id f'
          rw [show os.map VT.row ++ [[.int .i64 (buildM l d o A M').v.n, .flt .f64 (buildM l d o A M').v.f, .str (buildM l d o A M').v.s, .sl ((buildM l d o A M').v.of.map VT.row)]] = (os ++ [(buildM l d o A M').v]).map VT.row by rw [List.map_append, List.map_cons, VT.row_eq (buildM l d o A M').v]; rfl] at hL f' f'_w1
          refine gor hL ?_; (repeat (clear hL; intro t hL; refine gor hL ?_))
          refine po_storeoL hL rfl rfl (by repeat (first | exact Rem.head | apply Rem.tail)) f'_c ⟨rfl, by simp [f'_s]⟩ (of_decide_eq_true rfl) rfl (fun t hL => ?_)
          refine gor hL ?_; (repeat (clear hL; intro t hL; refine gor hL ?_))
          refine gnm ?_; rw [IntWalk.i64_in ((j : Int) + 1) (by omega)]
          exact ⟨hj', v', trimA, hL.pk⟩
        · have hj' : ¬ j < k := by simpa using h
          obtain rfl : j = k := by omega
          refine gor hL ?_; (repeat (clear hL; intro t hL; refine gor hL ?_)); (repeat (refine pseqk ?_; refine gor hL ?_; (repeat (clear hL; intro t hL; refine gor hL ?_))))
          rw [← hQ]
          exact pfinK () (pret_one (pres_cellL hL rfl (by repeat (first | exact Rem.head | apply Rem.tail)) rfl)) (.inr (by simp only [pvwk, List.map_cons, List.map_nil, fv_w1])) hL
      · exfalso
        have : ¬ ((m + 1 : Nat) : Int) ≤ 100 := by simpa using hq
        omega
    · simp only [buildM_5n (t := .mk 5 mo [] [o]) rfl (show 100 < m + 1 by omega), VT.av_eq, VT.zero, VT.pj, KT.rav_eq, KT.pj, List.length_nil, List.map_nil, List.map_cons]
      intro st t hL; refine pcalls_of k25 e25 (of_decide_eq_true rfl) ?_; dsimp only [c25]; generalize hQ : pfin _ _ = Q
      (refine gor hL ?_; (repeat (clear hL; intro t hL; refine gor hL ?_))); refine po_boxA hL ?_; clear hL; intro p3 t hL
      (refine gor hL ?_; (repeat (clear hL; intro t hL; refine gor hL ?_))); (with_reducible refine po_allocL hL rfl ?_); clear hL; intro p4 t hL
      refine gor hL ?_; (repeat (clear hL; intro t hL; refine gor hL ?_))
      rw [IntWalk.i64_in ((m : Int) + 1) (by omega), show (m : Int) + 1 = ((m + 1 : Nat) : Int) from rfl] at hL
      (refine gor hL ?_; (repeat (clear hL; intro t hL; refine gor hL ?_))); (with_reducible refine po_allocL hL rfl ?_); clear hL; intro p5 t hL
      refine gor hL ?_; (repeat (clear hL; intro t hL; refine gor hL ?_)); (repeat (refine pseqk ?_; refine gor hL ?_; (repeat (clear hL; intro t hL; refine gor hL ?_))))
      refine pcond_b rfl (fun hq => ?_) (fun hq => ?_)
      · exfalso
        have : ((m + 1 : Nat) : Int) ≤ 100 := by simpa using hq
        omega
      refine gor hL ?_; (repeat (clear hL; intro t hL; refine gor hL ?_)); (repeat (refine pseqk ?_; refine gor hL ?_; (repeat (clear hL; intro t hL; refine gor hL ?_))))
      rw [← hQ]
      exact pfinK () (pret_one (pres_cellL hL rfl (by repeat (first | exact Rem.head | apply Rem.tail)) rfl)) (.inr rfl) hL
  | reco _ k n o hk hl' hn' hf ho =>
    rcases hk with rfl | rfl
    · simp only [buildM_6 (t := .mk 6 0 n o) rfl, VT.av_eq, VT.num, VT.pj, KT.rav_eq, KT.pj, List.length_nil, List.map_nil, List.map_cons]
      intro st t hL; refine pcalls_of k25 e25 (of_decide_eq_true rfl) ?_; dsimp only [c25]; generalize hQ : pfin _ _ = Q
      (refine gor hL ?_; (repeat (clear hL; intro t hL; refine gor hL ?_))); refine po_boxA hL ?_; clear hL; intro p3 t hL
      (refine gor hL ?_; (repeat (clear hL; intro t hL; refine gor hL ?_))); (with_reducible refine po_allocL hL rfl ?_); clear hL; intro p4 t hL
      refine gor hL ?_; (repeat (clear hL; intro t hL; refine gor hL ?_))
      rw [IntWalk.i64_in ((m : Int) + 1) (by omega), show (m : Int) + 1 = ((m + 1 : Nat) : Int) from rfl] at hL
      (refine gor hL ?_; (repeat (clear hL; intro t hL; refine gor hL ?_))); (with_reducible refine po_allocL hL rfl ?_); clear hL; intro p5 t hL
      refine gor hL ?_; (repeat (clear hL; intro t hL; refine gor hL ?_)); (repeat (refine pseqk ?_; refine gor hL ?_; (repeat (clear hL; intro t hL; refine gor hL ?_))))
      have hco : cost (d + 1) (.mk 6 0 n o) = 1 + 4 * (o.map (cost d)).sum := rfl
      rw [hco] at hcost
      have hsm : ∀ k, ((o.take k).map (cost d)).sum ≤ (o.map (cost d)).sum := fun k => by
        have := congrArg (fun z => (z.map (cost d)).sum) (List.take_append_drop k o)
        simp only [List.map_append, List.sum_append] at this
        omega
      have hbd0 := fun j => foldB_bound (c := cost d) (f := buildM l d) (ts := o.take j) (fun u _ a m h => buildM_bound l d u a m h) a (m + 1) (by omega)
      refine pblock (pupA o.length (fun j s u => ∃ v, s = put (put (put (put (put (fun _ => .undef) (some 5) (ptrAt p5)) (some 4) (ptrAt p4)) (some 3) (ptrAt p3)) (some 0) (ptrAt pm)) (some 10) (i64 j) ∧ Lay st [.box p5 [.d (.int .i64 0), .d (.flt .f64 0), .d (.str (bs [])), v], .vec v ((foldB (buildM l d) (o.take j) a (m + 1)).1.map VT.row) 4, .box pm [.d (i64s l), i64 (foldB (buildM l d) (o.take j) a (m + 1)).2.1, i64 (foldB (buildM l d) (o.take j) a (m + 1)).2.2], .box p4 [.d (.int .i64 0), .d (.flt .f64 0), .d (.str (bs [])), .full []], .box p3 [.d (.int .i64 6), .d (.int .i64 0), .d (.int .i64 n.length), .d (.sl (o.map KT.rrow))]] u) ⟨.full [], trimA, (hL.full [] 4).pk⟩ ?_)
      clear hL
      rintro j s t hj ⟨v, rfl, hL⟩
      have fv := hL.vk v
      obtain ⟨fv_r, fv_w, fv_w1, fv_c, fv_s, fv_d⟩ := id fv
      refine gor hL ?_; (repeat (clear hL; intro t hL; refine gor hL ?_))
      refine pcond_b rfl (fun h => ?_) (fun h => ?_)
      · have hj' : j < o.length := by simpa using h
        obtain ⟨y, hy, hym⟩ := elem_at hj'
        have hbd := hbd0 j
        have hs1 := hsm (j + 1)
        rw [map_take_snoc _ hy, List.sum_append] at hs1
        simp only [List.sum_cons, List.sum_nil, Nat.add_zero] at hs1
        have hol := foldB_len (buildM l d) (o.take j) a (m + 1)
        rw [List.length_take] at hol
        have hsn := foldB_snoc (buildM l d) (o.take j) y a (m + 1)
        rw [← take_snoc hy] at hsn
        rw [hsn]
        clear hsn
        generalize (foldB (buildM l d) (o.take j) a (m + 1)) = F at *
        obtain ⟨os, A, M'⟩ := F
        simp only at hL hbd hol ⊢
        refine gor hL ?_; (repeat (clear hL; intro t hL; refine gor hL ?_))
        refine pblock ?_
        refine gor hL ?_; (repeat (clear hL; intro t hL; refine gor hL ?_))
        refine po_loadSt (H := [.box p5 [.d (.int .i64 0), .d (.flt .f64 0), .d (.str (bs [])), v], .box p3 [.d (.int .i64 6), .d (.int .i64 0), .d (.int .i64 n.length), .d (.sl (o.map KT.rrow))]]) (Stb.start _ (fun _ => .undef) t) hL rfl rfl (by repeat (first | exact Rem.head | apply Rem.tail)) (by (repeat (first | (with_reducible exact Pick.nil) | ((with_reducible apply Pick.cons); · (repeat (first | exact Rem.head | apply Rem.tail)))))) rfl (fun hS => ?_)
        refine gor hL ?_; (repeat (clear hL; intro t hL; refine gor hL ?_))
        refine po_loadSt hS hL rfl rfl (by repeat (first | exact Rem.head | apply Rem.tail)) (by (repeat (first | (with_reducible exact Pick.nil) | ((with_reducible apply Pick.cons); · (repeat (first | exact Rem.head | apply Rem.tail)))))) rfl (fun hS => ?_)
        refine gor hL ?_; (repeat (clear hL; intro t hL; refine gor hL ?_))
        skip
        refine gor hL ?_; (repeat (clear hL; intro t hL; refine gor hL ?_))
        have hc := ih y A M' (ho y hym) hbd.1 (by omega)
        simp only [KT.rav_eq] at hc
        refine po_callStA hS hL (hc) ?_; clear hL; intro _ t hL hS
        rw [VT.av_eq]
        refine gor hL ?_; (repeat (clear hL; intro t hL; refine gor hL ?_))
        have hr4 : ∀ r ∈ os.map VT.row, r.length = 4 := fun r hr => by
          obtain ⟨i, _, rfl⟩ := List.mem_map.1 hr; exact VT.row_len _
        refine po_appA hL hr4 ?_ ?_; (· simp; omega); clear hL; intro v' t f' hL; obtain ⟨f'_r, f'_w, f'_w1, f'_c, f'_s, f'_d⟩ := id f'
        rw [show os.map VT.row ++ [[.int .i64 (buildM l d y A M').v.n, .flt .f64 (buildM l d y A M').v.f, .str (buildM l d y A M').v.s, .sl ((buildM l d y A M').v.of.map VT.row)]] = (os ++ [(buildM l d y A M').v]).map VT.row by rw [List.map_append, List.map_cons, VT.row_eq (buildM l d y A M').v]; rfl] at hL f' f'_w1
        refine gor hL ?_; (repeat (clear hL; intro t hL; refine gor hL ?_))
        refine po_storeoL hL rfl rfl (by repeat (first | exact Rem.head | apply Rem.tail)) f'_c ⟨rfl, by simp [f'_s]⟩ (of_decide_eq_true rfl) rfl (fun t hL => ?_)
        refine gor hL ?_; (repeat (clear hL; intro t hL; refine gor hL ?_))
        refine gnm ?_; rw [IntWalk.i64_in ((j : Int) + 1) (by omega)]
        exact ⟨hj', v', trimA, hL.pk⟩
      · have hj' : ¬ j < o.length := by simpa using h
        obtain rfl : j = o.length := by omega
        rw [List.take_length] at hL fv_w1
        refine gor hL ?_; (repeat (clear hL; intro t hL; refine gor hL ?_)); (repeat (refine pseqk ?_; refine gor hL ?_; (repeat (clear hL; intro t hL; refine gor hL ?_))))
        rw [← hQ]
        exact pfinK () (pret_one (pres_cellL hL rfl (by repeat (first | exact Rem.head | apply Rem.tail)) rfl)) (.inr (by simp only [pvwk, List.map_cons, List.map_nil, fv_w1])) hL
    · simp only [buildM_8 (t := .mk 8 0 n o) rfl (show (KT.mk 8 0 n o).of.length ≠ 0 from show o.length ≠ 0 by omega), VT.av_eq, VT.num, VT.pj, KT.rav_eq, KT.pj, List.length_nil, List.map_nil, List.map_cons]
      intro st t hL; refine pcalls_of k25 e25 (of_decide_eq_true rfl) ?_; dsimp only [c25]; generalize hQ : pfin _ _ = Q
      (refine gor hL ?_; (repeat (clear hL; intro t hL; refine gor hL ?_))); refine po_boxA hL ?_; clear hL; intro p3 t hL
      (refine gor hL ?_; (repeat (clear hL; intro t hL; refine gor hL ?_))); (with_reducible refine po_allocL hL rfl ?_); clear hL; intro p4 t hL
      refine gor hL ?_; (repeat (clear hL; intro t hL; refine gor hL ?_))
      rw [IntWalk.i64_in ((m : Int) + 1) (by omega), show (m : Int) + 1 = ((m + 1 : Nat) : Int) from rfl] at hL
      (refine gor hL ?_; (repeat (clear hL; intro t hL; refine gor hL ?_))); (with_reducible refine po_allocL hL rfl ?_); clear hL; intro p5 t hL
      refine gor hL ?_; (repeat (clear hL; intro t hL; refine gor hL ?_)); (repeat (refine pseqk ?_; refine gor hL ?_; (repeat (clear hL; intro t hL; refine gor hL ?_))))
      refine po_callK hL (nextRC l hl hr a (by omega) (o.length : Int) (by omega) (i64 (m + 1 : Nat)) pm) ?_; clear hL; intro _ t hL
      refine gor hL ?_; (repeat (clear hL; intro t hL; refine gor hL ?_))
      have hn1 := Int.emod_lt_of_pos (nextN l a) (show (0 : Int) < o.length by omega)
      have hn2 := Int.emod_nonneg (nextN l a) (show (o.length : Int) ≠ 0 by omega)
      have hco : cost (d + 1) (.mk 8 0 n o) = 1 + 4 * (o.map (cost d)).sum := rfl
      rw [hco] at hcost
      generalize nextN l a % (o.length : Int) = n' at *
      obtain ⟨k, rfl⟩ : ∃ k : Nat, n' = k := ⟨n'.toNat, by omega⟩
      obtain ⟨y, hy, hym⟩ := elem_at (l := o) (k := k) (by omega)
      rw [Int.toNat_natCast, List.getD_eq_getElem?_getD, hy, Option.getD_some] at hQ
      have hcy := sum_get (c := cost d) hy
      have hna := nextA_le l a
      have hc := ih y (nextA l a) (m + 1) (ho y hym) (by omega) (by omega)
      simp only [KT.rav_eq] at hc
      refine gor hL ?_; (repeat (clear hL; intro t hL; refine gor hL ?_)); (repeat (refine pseqk ?_; refine gor hL ?_; (repeat (clear hL; intro t hL; refine gor hL ?_))))
      refine po_callK hL (hc) ?_; clear hL; intro _ t hL
      rw [VT.av_eq]
      refine gor hL ?_; (repeat (clear hL; intro t hL; refine gor hL ?_)); (repeat (refine pseqk ?_; refine gor hL ?_; (repeat (clear hL; intro t hL; refine gor hL ?_))))
      rw [← hQ]
      exact pfinK () (pret_one (pres_cellL hL rfl (by repeat (first | exact Rem.head | apply Rem.tail)) rfl)) (.inr (by simp only [pvwk, List.map_cons, List.map_nil, VT.row_eq, VT.cs])) hL
  | enum _ n hl' hf =>
    have hf1 := hf.1
    simp only [buildM_7 (t := .mk 7 0 n []) rfl, VT.av_eq, VT.num, VT.pj, KT.rav_eq, KT.pj, List.length_nil, List.map_nil, List.map_cons]
    rw [show (max n.length 1 : Nat) = n.length by omega]
    intro st t hL; refine pcalls_of k25 e25 (of_decide_eq_true rfl) ?_; dsimp only [c25]; generalize hQ : pfin _ _ = Q
    (refine gor hL ?_; (repeat (clear hL; intro t hL; refine gor hL ?_))); refine po_boxA hL ?_; clear hL; intro p3 t hL
    (refine gor hL ?_; (repeat (clear hL; intro t hL; refine gor hL ?_))); (with_reducible refine po_allocL hL rfl ?_); clear hL; intro p4 t hL
    refine gor hL ?_; (repeat (clear hL; intro t hL; refine gor hL ?_))
    rw [IntWalk.i64_in ((m : Int) + 1) (by omega), show (m : Int) + 1 = ((m + 1 : Nat) : Int) from rfl] at hL
    (refine gor hL ?_; (repeat (clear hL; intro t hL; refine gor hL ?_))); (with_reducible refine po_allocL hL rfl ?_); clear hL; intro p5 t hL
    refine gor hL ?_; (repeat (clear hL; intro t hL; refine gor hL ?_)); (repeat (refine pseqk ?_; refine gor hL ?_; (repeat (clear hL; intro t hL; refine gor hL ?_))))
    refine po_callK hL (nextRC l hl hr a (by omega) (n.length : Int) (by omega) (i64 (m + 1 : Nat)) pm) ?_; clear hL; intro _ t hL
    refine gor hL ?_; (repeat (clear hL; intro t hL; refine gor hL ?_)); (repeat (refine pseqk ?_; refine gor hL ?_; (repeat (clear hL; intro t hL; refine gor hL ?_))))
    rw [← hQ]
    exact pfinK () (pret_one (pres_cellL hL rfl (by repeat (first | exact Rem.head | apply Rem.tail)) rfl)) (.inr rfl) hL
end Go.Pv
