/- Functions of the program, by value. No condition. -/
import Derived.Test.YtmkfohiocklkoaaDoorL6
import Derived.Test.YtmkfohiocklkoaaDoorD10
import Derived.Test.YtmkfohiocklkoaaDoorP27
namespace Go.Pv
open Go.Proofs
set_option maxRecDepth 100000
set_option maxHeartbeats 8000000

/-- prompter/prompterlaw05.KindWrong$1 -/
abbrev c13_2 : PCode :=
 (.seq (.region [⟨(.some 5), (.mov (.c (.d (.int .i64 2)))), .none⟩])
 .ret)
abbrev c13_1 : PCode :=
 (.cond (.t 13)
  c13_2
  .skip)
abbrev c13_3 : PCode :=
 (.keep [] (.seq (.region [⟨(.some 5), (.mov (.c (.d (.int .i64 0)))), .none⟩])
 .ret))
abbrev c13_0 : PCode :=
 (.seq (.seq (.region [⟨(.some 6), (.load .false 1 (.t 2) .false), .none⟩,
   ⟨(.some 7), (.mov (.t 0)), .none⟩,
   ⟨(.some 8), (.bin .lss (.t 6) (.t 7)), .none⟩,
   ⟨(.some 9), (.mov (.t 8)), .none⟩,
   ⟨(.some 10), (.load .false 1 (.t 2) .false), (.some (9, .false))⟩,
   ⟨(.some 11), (.mov (.t 1)), (.some (9, .false))⟩,
   ⟨(.some 12), (.bin .gtr (.t 10) (.t 11)), (.some (9, .false))⟩,
   ⟨(.some 13), (.pick (.t 9) (.c (.d (.bool .true))) (.t 12)), .none⟩])
 c13_1)
 c13_3)
def c13 : PFun := ⟨
 (.seq (.region [⟨(.some 5), (.mov (.c (.d (.int .i64 0)))), .none⟩])
 c13_0),
 3, 14, [(.tmp 5)]⟩

/-- prompter/prompterlaw05.KindWrong$2 -/
abbrev c14_0 : PCode :=
 (.region [⟨(.some 3), (.faddr 3 (.t 1)), .none⟩,
   ⟨(.some 4), (.load .false 1 (.t 3) .false), .none⟩,
   ⟨(.some 5), (.load .true 4 (.t 2) .false), .none⟩,
   ⟨(.some 6), (.bld [(.d (.str (bs []))), (.d (.int .u8 0)), (.d (.int .i64 0)), (.full []), (.full [])] [(0, (1, (.c (.d (.str (bs [108, 97, 115, 116])))))), (1, (4, (.t 5)))]), .none⟩,
   ⟨(.some 7), (.bsl 5 [(.t 6)]), .none⟩,
   ⟨(.some 8), (.app 5 80 (.t 4) (.t 7)), .none⟩,
   ⟨(.some 9), (.faddr 3 (.t 1)), .none⟩,
   ⟨.none, (.store 1 (.t 9) (.t 8)), .none⟩])
def c14 : PFun := ⟨
 (.seq (.region [⟨(.some 2), (.box 4 (.t 0)), .none⟩])
 c14_0),
 2, 10, []⟩

/-- prompter/prompterlaw05.KindWrong -/
abbrev c3_2 : PCode :=
 (.seq (.region [⟨(.some 6), (.mov (.c (.d (.bool .false)))), .none⟩])
 .ret)
abbrev c3_1 : PCode :=
 (.cond (.t 16)
  c3_2
  .skip)
abbrev c3_5 : PCode :=
 (.seq (.region [⟨(.some 6), (.mov (.c (.d (.bool .true)))), .none⟩])
 .ret)
abbrev c3_4 : PCode :=
 (.cond (.t 19)
  c3_5
  .skip)
abbrev c3_9 : PCode :=
 (.seq (.region [⟨(.some 6), (.mov (.c (.d (.bool .true)))), .none⟩])
 .ret)
abbrev c3_8 : PCode :=
 (.cond (.t 24)
  c3_9
  .skip)
abbrev c3_17 : PCode :=
 (.region [⟨(.some 39), (.faddr 0 (.t 7)), .none⟩,
   ⟨.none, (.store 1 (.t 39) (.c (.d (.str (bs [114, 101, 99, 111, 114, 100]))))), .none⟩,
   ⟨(.some 10), (.mov (.c (.d (.int .i64 8)))), .none⟩])
abbrev c3_20 : PCode :=
 (.region [⟨(.some 42), (.load .false 1 (.t 5) .false), .none⟩,
   ⟨(.some 43), (.mov (.t 9)), .none⟩,
   ⟨(.some 44), (.callvp (.t 43) [(.c (.d (.int .i64 0))), (.c (.d (.int .i64 65535)))]), .none⟩,
   ⟨(.some 45), (.faddr 1 (.t 7)), .none⟩,
   ⟨.none, (.store 1 (.t 45) (.t 42)), .none⟩,
   ⟨(.some 10), (.mov (.t 44)), .none⟩])
abbrev c3_23 : PCode :=
 (.region [⟨(.some 48), (.load .false 1 (.t 5) .false), .none⟩,
   ⟨(.some 49), (.mov (.t 9)), .none⟩,
   ⟨(.some 50), (.callvp (.t 49) [(.c (.d (.int .i64 0))), (.c (.d (.int .i64 65535)))]), .none⟩,
   ⟨(.some 51), (.faddr 2 (.t 7)), .none⟩,
   ⟨.none, (.store 1 (.t 51) (.t 48)), .none⟩,
   ⟨(.some 10), (.mov (.t 50)), .none⟩])
abbrev c3_26 : PCode :=
 (.region [⟨(.some 54), (.make 5 80 [(.d (.str (bs []))), (.d (.int .u8 0)), (.d (.int .i64 0)), (.full []), (.full [])] (.c (.d (.int .i64 17))) (.c (.d (.int .i64 17)))), .none⟩,
   ⟨(.some 55), (.faddr 3 (.t 7)), .none⟩,
   ⟨.none, (.store 1 (.t 55) (.t 54)), .none⟩,
   ⟨(.some 10), (.mov (.c (.d (.int .i64 7)))), .none⟩])
abbrev c3_30 : PCode :=
 (.region [⟨(.some 62), (.mov (.t 9)), .none⟩,
   ⟨(.some 63), (.callv0 (.t 62) [(.c (.d (.int .i64 1))), (.c (.d (.int .i64 60)))]), .none⟩,
   ⟨(.some 10), (.mov (.t 63)), .none⟩])
abbrev c3_29 : PCode :=
 (.seq (.region [⟨(.some 58), (.mov (.t 11)), .none⟩,
   ⟨(.some 59), (.load .false 1 (.t 5) .false), .none⟩,
   ⟨(.some 60), (.bld [(.d (.int .u8 0)), (.d (.int .i64 0)), (.full []), (.full [])] [(0, (1, (.c (.d (.int .u8 4))))), (1, (1, (.t 59)))]), .none⟩,
   ⟨(.some 61), (.callv0 (.t 58) [(.t 60)]), .none⟩])
 c3_30)
abbrev c3_34 : PCode :=
 (.region [⟨(.some 70), (.mov (.t 9)), .none⟩,
   ⟨(.some 71), (.callv0 (.t 70) [(.c (.d (.int .i64 0))), (.c (.d (.int .i64 0)))]), .none⟩,
   ⟨(.some 10), (.mov (.t 71)), .none⟩])
abbrev c3_33 : PCode :=
 (.seq (.region [⟨(.some 66), (.mov (.t 11)), .none⟩,
   ⟨(.some 67), (.load .false 1 (.t 5) .false), .none⟩,
   ⟨(.some 68), (.bld [(.d (.int .u8 0)), (.d (.int .i64 0)), (.full []), (.full [])] [(0, (1, (.c (.d (.int .u8 1))))), (1, (1, (.t 67)))]), .none⟩,
   ⟨(.some 69), (.callv0 (.t 66) [(.t 68)]), .none⟩])
 c3_34)
abbrev c3_38 : PCode :=
 (.region [⟨(.some 10), (.mov (.c (.d (.int .i64 10)))), .none⟩])
abbrev c3_37 : PCode :=
 (.seq (.region [⟨(.some 74), (.mov (.t 11)), .none⟩,
   ⟨(.some 75), (.bsl 1 [(.c (.d (.str (bs [108, 97, 115, 116]))))]), .none⟩,
   ⟨(.some 76), (.bld [(.d (.int .u8 0)), (.d (.int .i64 0)), (.full []), (.full [])] [(0, (1, (.c (.d (.int .u8 9))))), (2, (1, (.t 75)))]), .none⟩,
   ⟨(.some 77), (.callv0 (.t 74) [(.t 76)]), .none⟩])
 c3_38)
abbrev c3_42 : PCode :=
 (.region [⟨(.some 10), (.mov (.c (.d (.int .i64 9)))), .none⟩])
abbrev c3_41 : PCode :=
 (.seq (.region [⟨(.some 80), (.mov (.t 11)), .none⟩,
   ⟨(.some 81), (.bsl 1 [(.c (.d (.str (bs [97])))), (.c (.d (.str (bs [98])))), (.c (.d (.str (bs [97]))))]), .none⟩,
   ⟨(.some 82), (.bld [(.d (.int .u8 0)), (.d (.int .i64 0)), (.full []), (.full [])] [(0, (1, (.c (.d (.int .u8 7))))), (2, (1, (.t 81)))]), .none⟩,
   ⟨(.some 83), (.callv0 (.t 80) [(.t 82)]), .none⟩])
 c3_42)
abbrev c3_46 : PCode :=
 (.region [⟨(.some 10), (.mov (.c (.d (.int .i64 4)))), .none⟩])
abbrev c3_45 : PCode :=
 (.seq (.region [⟨(.some 86), (.mov (.t 11)), .none⟩,
   ⟨(.some 87), (.bsl 1 [(.c (.d (.str (bs [97])))), (.c (.d (.str (bs [98]))))]), .none⟩,
   ⟨(.some 88), (.load .true 4 (.t 8) .false), .none⟩,
   ⟨(.some 89), (.bsl 4 [(.t 88)]), .none⟩,
   ⟨(.some 90), (.bld [(.d (.int .u8 0)), (.d (.int .i64 0)), (.full []), (.full [])] [(0, (1, (.c (.d (.int .u8 6))))), (2, (1, (.t 87))), (3, (1, (.t 89)))]), .none⟩,
   ⟨(.some 91), (.callv0 (.t 86) [(.t 90)]), .none⟩])
 c3_46)
abbrev c3_50 : PCode :=
 (.region [⟨(.some 10), (.mov (.c (.d (.int .i64 5)))), .none⟩])
abbrev c3_49 : PCode :=
 (.seq (.region [⟨(.some 94), (.mov (.t 11)), .none⟩,
   ⟨(.some 95), (.bld [(.d (.int .u8 0)), (.d (.int .i64 0)), (.full []), (.full [])] [(0, (1, (.c (.d (.int .u8 10)))))]), .none⟩,
   ⟨(.some 96), (.callv0 (.t 94) [(.t 95)]), .none⟩])
 c3_50)
abbrev c3_56 : PCode :=
 (.block 2 (.region [⟨(.some 102), (.load .true 4 (.t 12) .false), .none⟩,
   ⟨(.some 103), (.bsl 4 [(.t 102)]), .none⟩,
   ⟨(.some 104), (.bld [(.d (.int .u8 0)), (.d (.int .i64 0)), (.full []), (.full [])] [(0, (1, (.c (.d (.int .u8 5))))), (1, (1, (.c (.d (.int .i64 1))))), (3, (1, (.t 103)))]), .none⟩,
   ⟨.none, (.store 4 (.t 12) (.t 104)), .none⟩]))
abbrev c3_55 : PCode :=
 (.block 1 (.loop (.some [100, 7, 11, 12]) (.seq (.region [⟨(.some 101), (.bin .lss (.t 100) (.c (.d (.int .i64 5)))), .none⟩])
 (.seq (.cond (.t 101)
  .skip
  (.exit 1))
 (.seq c3_56
 (.region [⟨(.some 105), (.bin .add (.t 100) (.c (.d (.int .i64 1)))), .none⟩,
   ⟨(.some 100), (.mov (.t 105)), .none⟩]))))))
abbrev c3_58 : PCode :=
 (.region [⟨(.some 10), (.mov (.c (.d (.int .i64 5)))), .none⟩])
abbrev c3_57 : PCode :=
 (.seq (.region [⟨(.some 106), (.mov (.t 11)), .none⟩,
   ⟨(.some 107), (.load .true 4 (.t 12) .false), .none⟩,
   ⟨(.some 108), (.callv0 (.t 106) [(.t 107)]), .none⟩])
 c3_58)
abbrev c3_54 : PCode :=
 (.keep [7, 11, 12] (.seq (.seq (.region [⟨(.some 100), (.mov (.c (.d (.int .i64 0)))), .none⟩])
 c3_55)
 c3_57))
abbrev c3_53 : PCode :=
 (.seq (.region [⟨(.some 99), (.load .true 4 (.t 8) .false), .none⟩,
   ⟨(.some 12), (.alloc [(.d (.int .u8 0)), (.d (.int .i64 0)), (.full []), (.full [])]), .none⟩,
   ⟨.none, (.store 4 (.t 12) (.t 99)), .none⟩])
 c3_54)
abbrev c3_70 : PCode :=
 (.region [⟨(.some 10), (.mov (.c (.d (.int .i64 9)))), .none⟩])
abbrev c3_69 : PCode :=
 (.cond (.t 137)
  c3_70
  .skip)
abbrev c3_68 : PCode :=
 (.keep [5, 7, 10, 14, 128, 129, 130] (.seq (.region [⟨(.some 134), (.faddr 1 (.t 14)), .none⟩,
   ⟨(.some 135), (.load .false 1 (.t 134) .false), .none⟩,
   ⟨(.some 136), (.load .false 1 (.t 5) .false), .none⟩,
   ⟨(.some 137), (.bin .eql (.t 135) (.t 136)), .none⟩])
 c3_69))
abbrev c3_67 : PCode :=
 (.block 4 (.seq (.region [⟨(.some 132), (.iaddr 2 (.t 128) (.t 130)), .none⟩,
   ⟨(.some 133), (.load .true 2 (.t 132) .false), .none⟩,
   ⟨(.some 14), (.alloc [(.d (.str (bs []))), (.d (.int .i64 0))]), .none⟩,
   ⟨.none, (.store 2 (.t 14) (.t 133)), .none⟩])
 c3_68))
abbrev c3_66 : PCode :=
 (.keep [5, 7, 10, 128, 129, 130] (.block 3 (.loop (.some [130, 10, 5, 7, 128, 129]) (.seq (.region [⟨(.some 131), (.bin .lss (.t 130) (.t 129)), .none⟩])
 (.seq (.cond (.t 131)
  .skip
  (.exit 3))
 (.seq c3_67
 (.region [⟨(.some 138), (.bin .add (.t 130) (.c (.d (.int .i64 1)))), .none⟩,
   ⟨(.some 130), (.mov (.t 138)), .none⟩])))))))
abbrev c3_65 : PCode :=
 (.seq (.region [⟨(.some 122), (.faddr 4 (.t 7)), .none⟩,
   ⟨(.some 123), (.load .false 1 (.t 122) .false), .none⟩,
   ⟨(.some 124), (.faddr 4 (.t 7)), .none⟩,
   ⟨(.some 125), (.load .false 1 (.t 124) .false), .none⟩,
   ⟨(.some 126), (.len (.t 125)), .none⟩,
   ⟨(.some 127), (.bin .sub (.t 126) (.c (.d (.int .i64 1)))), .none⟩,
   ⟨(.some 128), (.slc 2 (.t 123) .none (.some (.t 127))), .none⟩,
   ⟨(.some 129), (.len (.t 128)), .none⟩,
   ⟨(.some 130), (.mov (.c (.d (.int .i64 0)))), .none⟩])
 c3_66)
abbrev c3_64 : PCode :=
 (.cond (.t 121)
  c3_65
  .skip)
abbrev c3_63 : PCode :=
 (.keep [5, 7, 10] (.seq (.region [⟨(.some 120), (.mov (.t 10)), .none⟩,
   ⟨(.some 121), (.bin .eql (.t 120) (.c (.d (.int .i64 0)))), .none⟩])
 c3_64))
abbrev c3_62 : PCode :=
 (.keep [5, 7, 9] (.seq (.region [⟨(.some 118), (.mov (.t 9)), .none⟩,
   ⟨(.some 119), (.callv0 (.t 118) [(.c (.d (.int .i64 0))), (.c (.d (.int .i64 65535)))]), .none⟩,
   ⟨(.some 10), (.mov (.t 119)), .none⟩])
 c3_63))
abbrev c3_61 : PCode :=
 (.seq (.region [⟨(.some 111), (.faddr 4 (.t 7)), .none⟩,
   ⟨(.some 112), (.load .false 1 (.t 111) .false), .none⟩,
   ⟨(.some 113), (.load .false 1 (.t 5) .false), .none⟩,
   ⟨(.some 114), (.bld [(.d (.str (bs []))), (.d (.int .i64 0))] [(0, (1, (.c (.d (.str (bs [108, 97, 115, 116])))))), (1, (1, (.t 113)))]), .none⟩,
   ⟨(.some 115), (.bsl 2 [(.t 114)]), .none⟩,
   ⟨(.some 116), (.app 2 24 (.t 112) (.t 115)), .none⟩,
   ⟨(.some 117), (.faddr 4 (.t 7)), .none⟩,
   ⟨.none, (.store 1 (.t 117) (.t 116)), .none⟩])
 c3_62)
abbrev c3_73 : PCode :=
 (.region [⟨(.some 141), (.faddr 4 (.t 7)), .none⟩,
   ⟨(.some 142), (.load .false 1 (.t 141) .false), .none⟩,
   ⟨(.some 143), (.bld [(.d (.str (bs []))), (.d (.int .i64 0))] [(0, (1, (.c (.d (.str (bs [102, 97, 99, 101])))))), (1, (1, (.c (.d (.int .i64 999)))))]), .none⟩,
   ⟨(.some 144), (.bsl 2 [(.t 143)]), .none⟩,
   ⟨(.some 145), (.app 2 24 (.t 142) (.t 144)), .none⟩,
   ⟨(.some 146), (.faddr 4 (.t 7)), .none⟩,
   ⟨.none, (.store 1 (.t 146) (.t 145)), .none⟩,
   ⟨(.some 10), (.mov (.c (.d (.int .i64 0)))), .none⟩])
abbrev c3_76 : PCode :=
 (.region [⟨(.some 149), (.faddr 5 (.t 7)), .none⟩,
   ⟨(.some 150), (.load .false 1 (.t 149) .false), .none⟩,
   ⟨(.some 151), (.load .false 1 (.t 5) .false), .none⟩,
   ⟨(.some 152), (.bld [(.d (.str (bs []))), (.d (.int .i64 0)), (.d (.int .u8 0)), (.d (.int .i64 0)), (.full []), (.full []), (.d (.int .u8 0)), (.d (.int .i64 0)), (.full []), (.full []), (.d (.int .u8 0)), (.d (.int .i64 0))] [(0, (1, (.c (.d (.str (bs [108, 97, 115, 116])))))), (1, (1, (.c (.d (.int .i64 999))))), (11, (1, (.t 151)))]), .none⟩,
   ⟨(.some 153), (.bsl 12 [(.t 152)]), .none⟩,
   ⟨(.some 154), (.app 12 168 (.t 150) (.t 153)), .none⟩,
   ⟨(.some 155), (.mov (.t 9)), .none⟩,
   ⟨(.some 156), (.callv0 (.t 155) [(.c (.d (.int .i64 1))), (.c (.d (.int .i64 1000)))]), .none⟩,
   ⟨(.some 157), (.faddr 5 (.t 7)), .none⟩,
   ⟨.none, (.store 1 (.t 157) (.t 154)), .none⟩,
   ⟨(.some 10), (.mov (.t 156)), .none⟩])
abbrev c3_79 : PCode :=
 (.region [⟨(.some 160), (.faddr 5 (.t 7)), .none⟩,
   ⟨(.some 161), (.load .false 1 (.t 160) .false), .none⟩,
   ⟨(.some 162), (.bld [(.d (.str (bs []))), (.d (.int .i64 0)), (.d (.int .u8 0)), (.d (.int .i64 0)), (.full []), (.full []), (.d (.int .u8 0)), (.d (.int .i64 0)), (.full []), (.full []), (.d (.int .u8 0)), (.d (.int .i64 0))] [(0, (1, (.c (.d (.str (bs [108, 97, 115, 116])))))), (1, (1, (.c (.d (.int .i64 999))))), (11, (1, (.c (.d (.int .i64 9))))), (10, (1, (.c (.d (.int .u8 3)))))]), .none⟩,
   ⟨(.some 163), (.bsl 12 [(.t 162)]), .none⟩,
   ⟨(.some 164), (.app 12 168 (.t 161) (.t 163)), .none⟩,
   ⟨(.some 165), (.faddr 5 (.t 7)), .none⟩,
   ⟨.none, (.store 1 (.t 165) (.t 164)), .none⟩,
   ⟨(.some 10), (.mov (.c (.d (.int .i64 2)))), .none⟩])
abbrev c3_80 : PCode :=
 (.region [⟨(.some 30), (.faddr 5 (.t 7)), .none⟩,
   ⟨(.some 31), (.load .false 1 (.t 30) .false), .none⟩,
   ⟨(.some 32), (.bld [(.d (.str (bs []))), (.d (.int .i64 0)), (.d (.int .u8 0)), (.d (.int .i64 0)), (.full []), (.full []), (.d (.int .u8 0)), (.d (.int .i64 0)), (.full []), (.full []), (.d (.int .u8 0)), (.d (.int .i64 0))] [(0, (1, (.c (.d (.str (bs [120])))))), (1, (1, (.c (.d (.int .i64 999))))), (11, (1, (.c (.d (.int .i64 9)))))]), .none⟩,
   ⟨(.some 33), (.bld [(.d (.str (bs []))), (.d (.int .i64 0)), (.d (.int .u8 0)), (.d (.int .i64 0)), (.full []), (.full []), (.d (.int .u8 0)), (.d (.int .i64 0)), (.full []), (.full []), (.d (.int .u8 0)), (.d (.int .i64 0))] [(0, (1, (.c (.d (.str (bs [121])))))), (1, (1, (.c (.d (.int .i64 999))))), (11, (1, (.c (.d (.int .i64 9)))))]), .none⟩,
   ⟨(.some 34), (.bsl 12 [(.t 32), (.t 33)]), .none⟩,
   ⟨(.some 35), (.app 12 168 (.t 31) (.t 34)), .none⟩,
   ⟨(.some 36), (.faddr 5 (.t 7)), .none⟩,
   ⟨.none, (.store 1 (.t 36) (.t 35)), .none⟩,
   ⟨(.some 10), (.mov (.c (.d (.int .i64 9)))), .none⟩])
abbrev c3_78 : PCode :=
 (.cond (.t 158)
  c3_79
  c3_80)
abbrev c3_77 : PCode :=
 (.seq (.region [⟨(.some 159), (.bin .eql (.t 29) (.c (.d (.int .u8 14)))), .none⟩,
   ⟨(.some 158), (.mov (.t 159)), .none⟩])
 c3_78)
abbrev c3_75 : PCode :=
 (.cond (.t 147)
  c3_76
  c3_77)
abbrev c3_74 : PCode :=
 (.seq (.region [⟨(.some 148), (.bin .eql (.t 29) (.c (.d (.int .u8 13)))), .none⟩,
   ⟨(.some 147), (.mov (.t 148)), .none⟩])
 c3_75)
abbrev c3_72 : PCode :=
 (.cond (.t 139)
  c3_73
  c3_74)
abbrev c3_71 : PCode :=
 (.seq (.region [⟨(.some 140), (.bin .eql (.t 29) (.c (.d (.int .u8 12)))), .none⟩,
   ⟨(.some 139), (.mov (.t 140)), .none⟩])
 c3_72)
abbrev c3_60 : PCode :=
 (.cond (.t 109)
  c3_61
  c3_71)
abbrev c3_59 : PCode :=
 (.seq (.region [⟨(.some 110), (.bin .eql (.t 29) (.c (.d (.int .u8 11)))), .none⟩,
   ⟨(.some 109), (.mov (.t 110)), .none⟩])
 c3_60)
abbrev c3_52 : PCode :=
 (.cond (.t 97)
  c3_53
  c3_59)
abbrev c3_51 : PCode :=
 (.seq (.region [⟨(.some 98), (.bin .eql (.t 29) (.c (.d (.int .u8 10)))), .none⟩,
   ⟨(.some 97), (.mov (.t 98)), .none⟩])
 c3_52)
abbrev c3_48 : PCode :=
 (.cond (.t 92)
  c3_49
  c3_51)
abbrev c3_47 : PCode :=
 (.seq (.region [⟨(.some 93), (.bin .eql (.t 29) (.c (.d (.int .u8 9)))), .none⟩,
   ⟨(.some 92), (.mov (.t 93)), .none⟩])
 c3_48)
abbrev c3_44 : PCode :=
 (.cond (.t 84)
  c3_45
  c3_47)
abbrev c3_43 : PCode :=
 (.seq (.region [⟨(.some 85), (.bin .eql (.t 29) (.c (.d (.int .u8 8)))), .none⟩,
   ⟨(.some 84), (.mov (.t 85)), .none⟩])
 c3_44)
abbrev c3_40 : PCode :=
 (.cond (.t 78)
  c3_41
  c3_43)
abbrev c3_39 : PCode :=
 (.seq (.region [⟨(.some 79), (.bin .eql (.t 29) (.c (.d (.int .u8 7)))), .none⟩,
   ⟨(.some 78), (.mov (.t 79)), .none⟩])
 c3_40)
abbrev c3_36 : PCode :=
 (.cond (.t 72)
  c3_37
  c3_39)
abbrev c3_35 : PCode :=
 (.seq (.region [⟨(.some 73), (.bin .eql (.t 29) (.c (.d (.int .u8 6)))), .none⟩,
   ⟨(.some 72), (.mov (.t 73)), .none⟩])
 c3_36)
abbrev c3_32 : PCode :=
 (.cond (.t 64)
  c3_33
  c3_35)
abbrev c3_31 : PCode :=
 (.seq (.region [⟨(.some 65), (.bin .eql (.t 29) (.c (.d (.int .u8 5)))), .none⟩,
   ⟨(.some 64), (.mov (.t 65)), .none⟩])
 c3_32)
abbrev c3_28 : PCode :=
 (.cond (.t 56)
  c3_29
  c3_31)
abbrev c3_27 : PCode :=
 (.seq (.region [⟨(.some 57), (.bin .eql (.t 29) (.c (.d (.int .u8 4)))), .none⟩,
   ⟨(.some 56), (.mov (.t 57)), .none⟩])
 c3_28)
abbrev c3_25 : PCode :=
 (.cond (.t 52)
  c3_26
  c3_27)
abbrev c3_24 : PCode :=
 (.seq (.region [⟨(.some 53), (.bin .eql (.t 29) (.c (.d (.int .u8 3)))), .none⟩,
   ⟨(.some 52), (.mov (.t 53)), .none⟩])
 c3_25)
abbrev c3_22 : PCode :=
 (.cond (.t 46)
  c3_23
  c3_24)
abbrev c3_21 : PCode :=
 (.seq (.region [⟨(.some 47), (.bin .eql (.t 29) (.c (.d (.int .u8 2)))), .none⟩,
   ⟨(.some 46), (.mov (.t 47)), .none⟩])
 c3_22)
abbrev c3_19 : PCode :=
 (.cond (.t 40)
  c3_20
  c3_21)
abbrev c3_18 : PCode :=
 (.seq (.region [⟨(.some 41), (.bin .eql (.t 29) (.c (.d (.int .u8 1)))), .none⟩,
   ⟨(.some 40), (.mov (.t 41)), .none⟩])
 c3_19)
abbrev c3_16 : PCode :=
 (.cond (.t 37)
  c3_17
  c3_18)
abbrev c3_15 : PCode :=
 (.block 0 (.seq (.region [⟨(.some 38), (.bin .eql (.t 29) (.c (.d (.int .u8 0)))), .none⟩,
   ⟨(.some 37), (.mov (.t 38)), .none⟩])
 c3_16))
abbrev c3_81 : PCode :=
 (.keep [7, 10] (.seq (.region [⟨(.some 166), (.load .true 6 (.t 7) .false), .none⟩,
   ⟨(.some 167), (.call0 12 [(.t 166)]), .none⟩,
   ⟨(.some 168), (.mov (.t 10)), .none⟩,
   ⟨(.some 169), (.bin .eql (.t 167) (.t 168)), .none⟩,
   ⟨(.some 6), (.mov (.t 169)), .none⟩])
 .ret))
abbrev c3_14 : PCode :=
 (.seq (.seq (.region [⟨(.some 28), (.mov (.t 1)), .none⟩,
   ⟨(.some 29), (.bin .rem (.t 28) (.c (.d (.int .u8 16)))), .none⟩])
 c3_15)
 c3_81)
abbrev c3_13 : PCode :=
 (.seq (.region [⟨(.some 27), (.mkfn 14 [] [(.t 7)]), .none⟩,
   ⟨(.some 11), (.mov (.t 27)), .none⟩])
 c3_14)
abbrev c3_12 : PCode :=
 (.seq (.region [⟨(.some 10), (.mov (.c (.d (.int .i64 0)))), .none⟩])
 c3_13)
abbrev c3_11 : PCode :=
 (.keep [1, 5, 7, 8] (.seq (.region [⟨(.some 26), (.mkfn 13 [] [(.t 5)]), .none⟩,
   ⟨(.some 9), (.mov (.t 26)), .none⟩])
 c3_12))
abbrev c3_10 : PCode :=
 (.keep [1, 5, 7] (.seq (.region [⟨(.some 25), (.bld [(.d (.int .u8 0)), (.d (.int .i64 0)), (.full []), (.full [])] []), .none⟩,
   ⟨(.some 8), (.alloc [(.d (.int .u8 0)), (.d (.int .i64 0)), (.full []), (.full [])]), .none⟩,
   ⟨.none, (.store 4 (.t 8) (.t 25)), .none⟩])
 c3_11))
abbrev c3_7 : PCode :=
 (.keep [1, 5, 7] (.seq (.seq (.region [⟨(.some 22), (.load .true 6 (.t 7) .false), .none⟩,
   ⟨(.some 23), (.call0 12 [(.t 22)]), .none⟩,
   ⟨(.some 24), (.bin .neq (.t 23) (.c (.d (.int .i64 0)))), .none⟩])
 c3_8)
 c3_10))
abbrev c3_6 : PCode :=
 (.keep [1, 3, 5] (.seq (.region [⟨(.some 20), (.load .true 4 (.t 3) .false), .none⟩,
   ⟨(.some 21), (.call0 11 [(.t 20)]), .none⟩,
   ⟨(.some 7), (.alloc [(.d (.str (bs []))), (.d (.int .i64 0)), (.d (.int .i64 0)), (.full []), (.full []), (.full [])]), .none⟩,
   ⟨.none, (.store 6 (.t 7) (.t 21)), .none⟩])
 c3_7))
abbrev c3_3 : PCode :=
 (.keep [1, 3, 5] (.seq (.seq (.region [⟨(.some 17), (.load .true 4 (.t 3) .false), .none⟩,
   ⟨(.some 18), (.call0 10 [(.t 17)]), .none⟩,
   ⟨(.some 19), (.not (.t 18)), .none⟩])
 c3_4)
 c3_6))
abbrev c3_0 : PCode :=
 (.keep [1, 3, 5] (.seq (.seq (.region [⟨(.some 15), (.call0 9 []), .none⟩,
   ⟨(.some 16), (.not (.t 15)), .none⟩])
 c3_1)
 c3_3))
def c3 : PFun := ⟨
 (.seq (.region [⟨(.some 3), (.box 4 (.t 0)), .none⟩,
   ⟨(.some 5), (.box 1 (.t 2)), .none⟩,
   ⟨(.some 6), (.mov (.c (.d (.bool .false)))), .none⟩])
 c3_0),
 3, 170, [(.tmp 6)]⟩

theorem e13 : entered Tryd.prog 13 = true := by kernel_rfl
theorem k13 : compFun Tryd.prog (fun _ => 0) 13 = some c13.er := by kernel_rfl
theorem e14 : entered Tryd.prog 14 = true := by kernel_rfl
theorem k14 : compFun Tryd.prog (fun _ => 0) 14 = some c14.er := by kernel_rfl
theorem e3 : entered Tryd.prog 3 = true := by kernel_rfl
theorem k3 : compFun Tryd.prog (fun i => if i = 17 then 1 else if i = 19 then 1 else 0) 3 = some c3.er := by kernel_rfl


theorem outC (n lo hi : Int) (st : St) (p : Nat) (h : st.box p = some [.d (.int .i64 n)]) : PureAt (PCalls Tryd.prog GK) st 13 [.d (.int .i64 lo), .d (.int .i64 hi), ptrAt p] (i64 (outE n lo hi)) := by
  refine pcalls_of k13 e13 (of_decide_eq_true rfl) ?_; dsimp only [c13]
  refine pstartL ?_; intro t hL; generalize hQ : pfin _ _ = Q
  refine gor hL ?_; (repeat (clear hL; intro t hL; refine gor hL ?_))
  have hd : (decide (n < lo) || decide (n > hi)) = decide (n < lo ∨ n > hi) := by simp
  refine pcond_b rfl (fun h1 => ?_) (fun h1 => ?_)
  · refine gor hL ?_; (repeat (clear hL; intro t hL; refine gor hL ?_))
    rw [← hQ]
    refine pfin_pure ?_ hL.le
    rw [outE, if_pos (by simpa using h1)]; rfl
  refine gor hL ?_; (repeat (clear hL; intro t hL; refine gor hL ?_))
  rw [← hQ]
  refine pfin_pure ?_ hL.le
  rw [outE, if_neg (by simpa using h1)]; rfl

theorem aliasC (x : KT) (p : Nat) (a0 a1 a2 v f g : AV) (rows : List (List Dat)) (hr : ∀ r ∈ rows, r.length = 5) (hl : rows.length < 2 ^ 40) :
    CL (PCalls Tryd.prog GK) 14 [x.av, ptrAt p] [.box p [a0, a1, a2, v, f, g], .vec v rows 5] (fun _ => .tup []) (fun a => [.box p [a0, a1, a2, a, f, g], .vec a (rows ++ [Al.row ⟨lastN, x⟩]) 5]) := by
  refine ⟨Sat.boxv p _ (fun a => [a0, a1, a2, a, f, g]) v _ _ _ _, ?_⟩
  rw [KT.av_eq, Al.row_eq]
  intro st t hL; refine pcalls_of k14 e14 (of_decide_eq_true rfl) ?_; dsimp only [c14]; generalize hQ : pfin _ _ = Q
  have fv := hL.vk v
  obtain ⟨fv_r, fv_w, fv_w1, fv_c, fv_s, fv_d⟩ := id fv
  (refine gor hL ?_; (repeat (clear hL; intro t hL; refine gor hL ?_))); refine po_boxA hL ?_; clear hL; intro p2 t hL
  refine gor hL ?_; (repeat (clear hL; intro t hL; refine gor hL ?_))
  refine po_appA hL hr ?_ ?_; (· simp; omega); clear hL; intro v' t fv' hL; obtain ⟨fv'_r, fv'_w, fv'_w1, fv'_c, fv'_s, fv'_d⟩ := id fv'
  refine gor hL ?_; (repeat (clear hL; intro t hL; refine gor hL ?_))
  rw [← hQ]
  exact pfinK v' rfl (.inl rfl) hL

theorem slc_vf {G : Glob} {s : Slots} {x b : Arg} {v : AV} {rows : List (List Dat)} {j : Nat} {sz : Nat} (hx : x.ev G s = v) (hv : VF v rows) (hb : b.ev G s = i64 j) (hj : j ≤ rows.length) : ev G s (.slc sz x none (some b)) = some (.d (.sl (rows.take j))) := by
  have hr := hv.rows
  have key : ev G s (.slc sz x none (some b)) = v.rows?.bind fun rows => (bnds rows.length rows.length none (some (b.ev G s))).bind fun p => if p.1 = 0 ∨ (rows.all fun r => r.length == sz) = true then some (.d (.sl ((rows.take p.2).drop p.1))) else none := by
    simp only [ev, hx]
    cases v with
    | bsl c o n k => have := hv.weak; cases this
    | _ => rfl
  rw [key, hr, hb]
  simp only [Option.bind_some, bnds, bnd, i64]
  rw [if_pos ⟨by omega, by omega⟩]
  simp
theorem out_ti (n : Int) : (if (decide (n < 1) || decide (n > 1000) || decide ((0 : Int) ≥ 3)) = true then 2 else 0) = outE n 1 1000 := by
  unfold outE
  by_cases h : n < 1 ∨ n > 1000
  · rw [if_pos h, if_pos (by simp; omega)]
  · rw [if_neg h, if_neg (by simp; omega)]

theorem C3 (s : Sm) (hf : s.fit) (what : Int) (hwh : 0 ≤ what ∧ what ≤ 255) (n : Int) : Pure (PCalls Tryd.prog GK) 3 [s.av, .d (.int .u8 what), .d (.int .i64 n)] (b2 true) := by
  have htf := tb_fit hf
  have hck := tb_check hf
  have has := as_le s
  have hl4 : s.tb.types.length ≤ 4 ∧ s.tb.faults.length ≤ 4 ∧ s.tb.procs.length ≤ 4 := ⟨by simp [Sm.tb]; omega, by have := fs_lt hf; simp [Sm.tb]; omega, by have := ps_le s; simp [Sm.tb]; omega⟩
  have hlaws : s.tb.check = 0 → s.tb.ok ∧ (∀ x : KT, (TB.mk s.tb.name s.tb.number s.tb.version (s.tb.types ++ [⟨lastN, x⟩]) s.tb.faults s.tb.procs).check = x.check 5 (known s.as)) ∧
      (∀ n, (TB.mk s.tb.name s.tb.number s.tb.version s.tb.types (s.tb.faults ++ [⟨lastN, n⟩]) s.tb.procs).check = if inNum n = false then 2 else if n ∈ s.tb.faults.map Fl.number then 9 else 0) ∧
      (TB.mk s.tb.name s.tb.number s.tb.version s.tb.types (s.tb.faults ++ [⟨face, 999⟩]) s.tb.procs).check = 0 ∧
      (∀ co ti, (TB.mk s.tb.name s.tb.number s.tb.version s.tb.types s.tb.faults (s.tb.procs ++ [⟨lastN, 999, KT.zero, KT.zero, co, ti⟩])).check = if (decide (ti < 1) || decide (ti > 1000) || decide (co ≥ 3)) = true then 2 else 0) ∧
      (TB.mk s.tb.name s.tb.number s.tb.version s.tb.types s.tb.faults (s.tb.procs ++ [⟨xN, 999, KT.zero, KT.zero, 0, 9⟩, ⟨yN, 999, KT.zero, KT.zero, 0, 9⟩])).check = 9 :=
    fun hc => ⟨tb_ok hf hc, wrong_alias hf hc, wrong_last hf hc, wrong_face hf hc, wrong_proc hf hc, wrong_twice hf hc⟩
  have hT : CL (PCalls Tryd.prog GK) 11 [s.av] [] (fun a : AV × AV × AV => .agg [.d (.str s.tb.name), .d (.int .i64 s.tb.number), .d (.int .i64 s.tb.version), a.1, a.2.1, a.2.2])
    (fun a => [.vec a.1 (s.tb.types.map Al.row) 5, .vec a.2.1 (s.tb.faults.map Fl.row) 2, .vec a.2.2 (s.tb.procs.map Pc.row) 12]) := tableL s hf
  intro st; refine pcalls_of k3 e3 (of_decide_eq_true rfl) ?_; dsimp only [c3]; refine pstartL ?_; intro t hL; generalize hQ : pfin _ _ = Q
  (refine gor hL ?_; (repeat (clear hL; intro t hL; refine gor hL ?_))); refine po_boxA hL ?_; clear hL; intro p3 t hL
  (refine gor hL ?_; (repeat (clear hL; intro t hL; refine gor hL ?_))); refine po_boxA hL ?_; clear hL; intro p5 t hL
  refine gor hL ?_; (repeat (clear hL; intro t hL; refine gor hL ?_))
  refine po_call rfl C9 (fun _ _ h => False.elim h) ?_
  refine gor hL ?_; (repeat (clear hL; intro t hL; refine gor hL ?_))
  refine po_call rfl (C10 s hf) (fun _ _ h => False.elim h) ?_
  refine gor hL ?_; (repeat (clear hL; intro t hL; refine gor hL ?_))
  refine pcond_b rfl (fun h1 => ?_) (fun h1 => ?_)
  · refine gor hL ?_; (repeat (clear hL; intro t hL; refine gor hL ?_))
    rw [← hQ]
    exact pfin_pure rfl hL.le
  refine gor hL ?_; (repeat (clear hL; intro t hL; refine gor hL ?_))
  refine po_callK hL hT ?_
  clear hL; rintro ⟨v1, v2, v3⟩ t hL
  simp only at hL
  generalize s.tb = T at *
  have f1 := hL.vk v1
  have f2 := hL.vk v2
  have f3 := hL.vk v3
  obtain ⟨f1_r, f1_w, f1_w1, f1_c, f1_s, f1_d⟩ := id f1
  obtain ⟨f2_r, f2_w, f2_w1, f2_c, f2_s, f2_d⟩ := id f2
  obtain ⟨f3_r, f3_w, f3_w1, f3_c, f3_s, f3_d⟩ := id f3
  have hr1 : ∀ r ∈ T.types.map Al.row, r.length = 5 := fun r hr => by
    obtain ⟨i, _, rfl⟩ := List.mem_map.1 hr; exact Al.row_len _
  have hr2 : ∀ r ∈ T.faults.map Fl.row, r.length = 2 := fun r hr => by
    obtain ⟨i, _, rfl⟩ := List.mem_map.1 hr; rfl
  have hr3 : ∀ r ∈ T.procs.map Pc.row, r.length = 12 := fun r hr => by
    obtain ⟨i, _, rfl⟩ := List.mem_map.1 hr; rfl
  (refine gor hL ?_; (repeat (clear hL; intro t hL; refine gor hL ?_))); (with_reducible refine po_allocL hL rfl ?_); clear hL; intro p7 t hL
  refine gor hL ?_; (repeat (clear hL; intro t hL; refine gor hL ?_))
  refine po_c0 (C12 T htf) ?_
  by_cases hB : T.check = 0
  case neg =>
    refine gor hL ?_; (repeat (clear hL; intro t hL; refine gor hL ?_))
    refine gnm ?_; rw [show (T.check != 0) = true by simpa using hB]
    refine gor hL ?_; (repeat (clear hL; intro t hL; refine gor hL ?_))
    rw [← hQ]
    exact pfin_pure rfl hL.le
  obtain ⟨hok, hA, hF, hF', hP, hP'⟩ := hlaws hB
  rw [hB]
  clear hlaws hck
  refine gor hL ?_; (repeat (clear hL; intro t hL; refine gor hL ?_))
  refine gnm ?_; simp only [beq_self_eq_true, bne_self_eq_false, Int.reduceBEq, Int.reduceBNe]
  refine gor hL ?_; (repeat (clear hL; intro t hL; refine gor hL ?_))
  (refine gor hL ?_; (repeat (clear hL; intro t hL; refine gor hL ?_))); (with_reducible refine po_allocL hL rfl ?_); clear hL; intro p8 t hL
  refine gor hL ?_; (repeat (clear hL; intro t hL; refine gor hL ?_))
  refine pjoinF (fun s u => ∃ (T' : TB) (want : Int) (w1 w2 w3 : AV), s = put (put (fun _ => .undef) (some 10) (i64 want)) (some 7) (ptrAt p7) ∧ Lay st [.box p7 [.d (.str T'.name), .d (.int .i64 T'.number), .d (.int .i64 T'.version), w1, w2, w3]] u ∧ w1.weak1 = .d (.sl (T'.types.map Al.row)) ∧ w2.weak1 = .d (.sl (T'.faults.map Fl.row)) ∧ w3.weak1 = .d (.sl (T'.procs.map Pc.row)) ∧ T'.fit ∧ T'.check = want) ?_ ?_
  case refine_2 =>
    rintro s t ⟨T', want, w1, w2, w3, rfl, hL, f1', f2', f3', hfit, hch⟩
    refine gor hL ?_; (repeat (clear hL; intro t hL; refine gor hL ?_))
    refine po_c0 (C12 T' hfit) ?_
    rw [hch]
    refine gor hL ?_; (repeat (clear hL; intro t hL; refine gor hL ?_))
    rw [← hQ]
    exact pfin_pure rfl hL.le
  · refine gor hL ?_; (repeat (clear hL; intro t hL; refine gor hL ?_))
    refine gnm ?_; rw [IntWalk.rem_in _ _ (by omega)]
    have hw : 0 ≤ what % 16 ∧ what % 16 < 16 := by omega
    have hm5 : s.as < 5 := by omega
    generalize what % 16 = w at *
    refine gor hL ?_; (repeat (clear hL; intro t hL; refine gor hL ?_))
    refine pcond_b rfl (fun h0 => ?_) (fun h0 => ?_)
    · refine gor hL ?_; (repeat (clear hL; intro t hL; refine gor hL ?_))
      exact ⟨_, _, .refl _ _, TB.mk recordN T.number T.version T.types T.faults T.procs, _, v1, v2, v3, tr2, hL.pk, f1_w1, f2_w1, f3_w1, fit_name htf (by decide), wrong_name⟩
    refine gor hL ?_; (repeat (clear hL; intro t hL; refine gor hL ?_))
    refine pcond_b rfl (fun h1 => ?_) (fun h1 => ?_)
    · refine gor hL ?_; (repeat (clear hL; intro t hL; refine gor hL ?_))
      refine po_callvp rfl rfl (outC n 0 65535 t p5 (hL.bk)) ?_
      refine gor hL ?_; (repeat (clear hL; intro t hL; refine gor hL ?_))
      exact ⟨_, _, .refl _ _, TB.mk T.name n T.version T.types T.faults T.procs, _, v1, v2, v3, tr2, hL.pk, f1_w1, f2_w1, f3_w1, fit_number htf n, wrong_number hok n⟩
    refine gor hL ?_; (repeat (clear hL; intro t hL; refine gor hL ?_))
    refine pcond_b rfl (fun h2 => ?_) (fun h2 => ?_)
    · refine gor hL ?_; (repeat (clear hL; intro t hL; refine gor hL ?_))
      refine po_callvp rfl rfl (outC n 0 65535 t p5 (hL.bk)) ?_
      refine gor hL ?_; (repeat (clear hL; intro t hL; refine gor hL ?_))
      exact ⟨_, _, .refl _ _, TB.mk T.name T.number n T.types T.faults T.procs, _, v1, v2, v3, tr2, hL.pk, f1_w1, f2_w1, f3_w1, fit_version htf n, wrong_version hok n⟩
    refine gor hL ?_; (repeat (clear hL; intro t hL; refine gor hL ?_))
    refine pcond_b rfl (fun h3 => ?_) (fun h3 => ?_)
    · refine gor hL ?_; (repeat (clear hL; intro t hL; refine gor hL ?_))
      refine po_makeL hL rfl (l := 17) (c := 17) rfl rfl (by decide) ?_
      clear hL; intro pm t hL
      refine gor hL ?_; (repeat (clear hL; intro t hL; refine gor hL ?_))
      have hfz := (hL.rem (x := .box pm (List.replicate 17 [AV.d (Dat.str (bs [])), AV.d (Dat.int IntKind.u8 0), AV.d (Dat.int IntKind.i64 0), AV.full [], AV.full []]).flatten) (by repeat (first | exact Rem.head | apply Rem.tail))).frz (sz := 5) (rows := List.replicate 17 (Al.row ⟨bs [], KT.zero⟩)) (rest := []) (fun r hr => by rw [List.eq_of_mem_replicate hr]; rfl) rfl
      obtain ⟨t2, hz, hL⟩ := hfz
      refine ⟨_, t2, hz _, TB.mk T.name T.number T.version (List.replicate 17 ⟨bs [], KT.zero⟩) T.faults T.procs, 7, .d (.sl (List.replicate 17 (Al.row ⟨bs [], KT.zero⟩))), v2, v3, ?_, ?_, rfl, f2_w1, f3_w1, fit_types htf (by decide) (fun a ha => by rw [List.eq_of_mem_replicate ha]; exact KT.zero_fit) (fun a ha => by rw [List.eq_of_mem_replicate ha]; decide), wrong_many hok _⟩
      · refine Eq.trans (congrArg (fun (f : Slots) => fun i => AV.frz pm (List.replicate 17 (Al.row ⟨bs [], KT.zero⟩)) (f i)) (a₂ := put (put (fun _ => .undef) (some 10) (i64 7)) (some 7) (ptrAt p7)) tr2) ?_
        simp only [frz_put, frz_undef]
        rfl
      · have e1 : AV.frz1 pm (List.replicate 17 (Al.row ⟨bs [], KT.zero⟩)) (.bsl pm 0 17 17) = .d (.sl (List.replicate 17 (Al.row ⟨bs [], KT.zero⟩))) := if_pos ⟨rfl, rfl, rfl⟩
        have e2 := f2.frz1 pm (List.replicate 17 (Al.row ⟨bs [], KT.zero⟩))
        have e3 := f3.frz1 pm (List.replicate 17 (Al.row ⟨bs [], KT.zero⟩))
        have ec : (AV.bsl pm 0 17 17).cells = [.bsl pm 0 17 17] := rfl
        simp only [List.map_cons, List.map_nil, Item.frz, ec, List.cons_append, List.nil_append, e1, e2, e3, pvf] at hL
        exact hL.pk
    refine gor hL ?_; (repeat (clear hL; intro t hL; refine gor hL ?_))
    refine pcond_b rfl (fun h4 => ?_) (fun h4 => ?_)
    · refine gor hL ?_; (repeat (clear hL; intro t hL; refine gor hL ?_))
      refine po_callvK hL (aliasC (.mk 4 n [] []) p7 (.d (.str T.name)) (.d (.int .i64 T.number)) (.d (.int .i64 T.version)) v1 v2 v3 (T.types.map Al.row) hr1 (by simp; omega)) ?_
      clear hL; intro v' t hL
      have f' := hL.vk v'
      obtain ⟨f'_r, f'_w, f'_w1, f'_c, f'_s, f'_d⟩ := id f'
      refine gor hL ?_; (repeat (clear hL; intro t hL; refine gor hL ?_))
      refine po_callv rfl rfl (outC n 1 60 t p5 (hL.bk)) (fun _ _ h => False.elim h) ?_
      refine gor hL ?_; (repeat (clear hL; intro t hL; refine gor hL ?_))
      refine ⟨_, _, .refl _ _, TB.mk T.name T.number T.version (T.types ++ [⟨lastN, .mk 4 n [] []⟩]) T.faults T.procs, _, v', v2, v3, tr2, hL.pk, by rw [f'_w1, List.map_append]; rfl, f2_w1, f3_w1, fit_alias htf hl4.1 (show KT.fit (.mk 4 n [] []) from ⟨⟨by decide, fun _ h => by cases h⟩, by decide, trivial⟩), ?_⟩
      rw [hA]
      exact text_check n _
    refine gor hL ?_; (repeat (clear hL; intro t hL; refine gor hL ?_))
    refine pcond_b rfl (fun h5 => ?_) (fun h5 => ?_)
    · refine gor hL ?_; (repeat (clear hL; intro t hL; refine gor hL ?_))
      refine po_callvK hL (aliasC (.mk 1 n [] []) p7 (.d (.str T.name)) (.d (.int .i64 T.number)) (.d (.int .i64 T.version)) v1 v2 v3 (T.types.map Al.row) hr1 (by simp; omega)) ?_
      clear hL; intro v' t hL
      have f' := hL.vk v'
      obtain ⟨f'_r, f'_w, f'_w1, f'_c, f'_s, f'_d⟩ := id f'
      refine gor hL ?_; (repeat (clear hL; intro t hL; refine gor hL ?_))
      refine po_callv rfl rfl (outC n 0 0 t p5 (hL.bk)) (fun _ _ h => False.elim h) ?_
      refine gor hL ?_; (repeat (clear hL; intro t hL; refine gor hL ?_))
      refine ⟨_, _, .refl _ _, TB.mk T.name T.number T.version (T.types ++ [⟨lastN, .mk 1 n [] []⟩]) T.faults T.procs, _, v', v2, v3, tr2, hL.pk, by rw [f'_w1, List.map_append]; rfl, f2_w1, f3_w1, fit_alias htf hl4.1 (show KT.fit (.mk 1 n [] []) from ⟨⟨by decide, fun _ h => by cases h⟩, by decide, trivial⟩), ?_⟩
      rw [hA]
      exact card_check n _
    refine gor hL ?_; (repeat (clear hL; intro t hL; refine gor hL ?_))
    refine pcond_b rfl (fun h6 => ?_) (fun h6 => ?_)
    · refine gor hL ?_; (repeat (clear hL; intro t hL; refine gor hL ?_))
      refine po_callvK hL (aliasC (.mk 9 0 [lastN] []) p7 (.d (.str T.name)) (.d (.int .i64 T.number)) (.d (.int .i64 T.version)) v1 v2 v3 (T.types.map Al.row) hr1 (by simp; omega)) ?_
      clear hL; intro v' t hL
      have f' := hL.vk v'
      obtain ⟨f'_r, f'_w, f'_w1, f'_c, f'_s, f'_d⟩ := id f'
      refine gor hL ?_; (repeat (clear hL; intro t hL; refine gor hL ?_))
      refine ⟨_, _, .refl _ _, TB.mk T.name T.number T.version (T.types ++ [⟨lastN, .mk 9 0 [lastN] []⟩]) T.faults T.procs, _, v', v2, v3, tr2, hL.pk, by rw [f'_w1, List.map_append]; rfl, f2_w1, f3_w1, fit_alias htf hl4.1 (show KT.fit (.mk 9 0 [lastN] []) from ⟨⟨by decide, fun s hs => by rw [List.mem_singleton.1 hs]; decide⟩, by decide, trivial⟩), ?_⟩
      rw [hA]
      exact ref_check ⟨s.as, hm5⟩
    refine gor hL ?_; (repeat (clear hL; intro t hL; refine gor hL ?_))
    refine pcond_b rfl (fun h7 => ?_) (fun h7 => ?_)
    · refine gor hL ?_; (repeat (clear hL; intro t hL; refine gor hL ?_))
      refine po_callvK hL (aliasC (.mk 7 0 [bs [97], bs [98], bs [97]] []) p7 (.d (.str T.name)) (.d (.int .i64 T.number)) (.d (.int .i64 T.version)) v1 v2 v3 (T.types.map Al.row) hr1 (by simp; omega)) ?_
      clear hL; intro v' t hL
      have f' := hL.vk v'
      obtain ⟨f'_r, f'_w, f'_w1, f'_c, f'_s, f'_d⟩ := id f'
      refine gor hL ?_; (repeat (clear hL; intro t hL; refine gor hL ?_))
      refine ⟨_, _, .refl _ _, TB.mk T.name T.number T.version (T.types ++ [⟨lastN, .mk 7 0 [bs [97], bs [98], bs [97]] []⟩]) T.faults T.procs, _, v', v2, v3, tr2, hL.pk, by rw [f'_w1, List.map_append]; rfl, f2_w1, f3_w1, fit_alias htf hl4.1 (show KT.fit (.mk 7 0 [bs [97], bs [98], bs [97]] []) from ⟨⟨by decide, fun s hs => by simp only [List.mem_cons, List.not_mem_nil, or_false] at hs; rcases hs with rfl | rfl | rfl <;> decide⟩, by decide, trivial⟩), ?_⟩
      rw [hA]
      exact enum_check ⟨s.as, hm5⟩
    refine gor hL ?_; (repeat (clear hL; intro t hL; refine gor hL ?_))
    refine pcond_b rfl (fun h8 => ?_) (fun h8 => ?_)
    · refine gor hL ?_; (repeat (clear hL; intro t hL; refine gor hL ?_))
      refine po_callvK hL (aliasC (.mk 6 0 [bs [97], bs [98]] [KT.zero]) p7 (.d (.str T.name)) (.d (.int .i64 T.number)) (.d (.int .i64 T.version)) v1 v2 v3 (T.types.map Al.row) hr1 (by simp; omega)) ?_
      clear hL; intro v' t hL
      have f' := hL.vk v'
      obtain ⟨f'_r, f'_w, f'_w1, f'_c, f'_s, f'_d⟩ := id f'
      refine gor hL ?_; (repeat (clear hL; intro t hL; refine gor hL ?_))
      refine ⟨_, _, .refl _ _, TB.mk T.name T.number T.version (T.types ++ [⟨lastN, .mk 6 0 [bs [97], bs [98]] [KT.zero]⟩]) T.faults T.procs, _, v', v2, v3, tr2, hL.pk, by rw [f'_w1, List.map_append]; rfl, f2_w1, f3_w1, fit_alias htf hl4.1 (show KT.fit (.mk 6 0 [bs [97], bs [98]] [KT.zero]) from ⟨⟨by decide, fun s hs => by simp only [List.mem_cons, List.not_mem_nil, or_false] at hs; rcases hs with rfl | rfl <;> decide⟩, by decide, KT.zero_fit, trivial⟩), ?_⟩
      rw [hA]
      exact rec_check _
    refine gor hL ?_; (repeat (clear hL; intro t hL; refine gor hL ?_))
    refine pcond_b rfl (fun h9 => ?_) (fun h9 => ?_)
    · refine gor hL ?_; (repeat (clear hL; intro t hL; refine gor hL ?_))
      refine po_callvK hL (aliasC (.mk 10 0 [] []) p7 (.d (.str T.name)) (.d (.int .i64 T.number)) (.d (.int .i64 T.version)) v1 v2 v3 (T.types.map Al.row) hr1 (by simp; omega)) ?_
      clear hL; intro v' t hL
      have f' := hL.vk v'
      obtain ⟨f'_r, f'_w, f'_w1, f'_c, f'_s, f'_d⟩ := id f'
      refine gor hL ?_; (repeat (clear hL; intro t hL; refine gor hL ?_))
      refine ⟨_, _, .refl _ _, TB.mk T.name T.number T.version (T.types ++ [⟨lastN, .mk 10 0 [] []⟩]) T.faults T.procs, _, v', v2, v3, tr2, hL.pk, by rw [f'_w1, List.map_append]; rfl, f2_w1, f3_w1, fit_alias htf hl4.1 (show KT.fit (.mk 10 0 [] []) from ⟨⟨by decide, fun _ h => by cases h⟩, by decide, trivial⟩), ?_⟩
      rw [hA]
      exact kind_check _
    refine gor hL ?_; (repeat (clear hL; intro t hL; refine gor hL ?_))
    refine pcond_b rfl (fun h10 => ?_) (fun h10 => ?_)
    · (refine gor hL ?_; (repeat (clear hL; intro t hL; refine gor hL ?_))); (with_reducible refine po_allocL hL rfl ?_); clear hL; intro p12 t hL
      refine gor hL ?_; (repeat (clear hL; intro t hL; refine gor hL ?_))
      (apply prangeJ (5) (by omega) (fun k t => Lay st [.box p12 [.d (.int .u8 (nest k).kind), .d (.int .i64 (nest k).most), .full [], .full ((nest k).of.map KT.row)], .box p7 [.d (.str T.name), .d (.int .i64 T.number), .d (.int .i64 T.version), v1, v2, v3], .vec v1 (T.types.map Al.row) 5] t)); (· exact trimA); (· exact fun _ => rfl)
      · exact hL.pk
      · intro t hL
        refine gor hL ?_; (repeat (clear hL; intro t hL; refine gor hL ?_))
        refine po_callvK hL (aliasC (nest 5) p7 (.d (.str T.name)) (.d (.int .i64 T.number)) (.d (.int .i64 T.version)) v1 v2 v3 (T.types.map Al.row) hr1 (by simp; omega)) ?_
        clear hL; intro v' t hL
        have f' := hL.vk v'
        obtain ⟨f'_r, f'_w, f'_w1, f'_c, f'_s, f'_d⟩ := id f'
        refine gor hL ?_; (repeat (clear hL; intro t hL; refine gor hL ?_))
        refine ⟨_, _, .refl _ _, TB.mk T.name T.number T.version (T.types ++ [⟨lastN, nest 5⟩]) T.faults T.procs, _, v', v2, v3, tr2, hL.pk, by rw [f'_w1, List.map_append]; rfl, f2_w1, f3_w1, fit_alias htf hl4.1 (nest_fit 5), ?_⟩
        rw [hA]
        exact nest_check ⟨s.as, hm5⟩
      · intro k hk t hL
        have hrow : (nest k).row = [.int .u8 (nest k).kind, .int .i64 (nest k).most, .sl [], .sl ((nest k).of.map KT.row)] := by
          rw [KT.row_eq, KT.cs, show (nest k).names = [] by cases k <;> rfl]; rfl
        refine pblock ?_
        refine gor hL ?_; (repeat (clear hL; intro t hL; refine gor hL ?_))
        refine ⟨?_, tr2⟩
        rw [show (nest (k + 1)).of.map KT.row = [(nest k).row] from rfl, hrow]
        exact hL.pk
    refine gor hL ?_; (repeat (clear hL; intro t hL; refine gor hL ?_))
    refine pcond_b rfl (fun h11 => ?_) (fun h11 => ?_)
    · refine gor hL ?_; (repeat (clear hL; intro t hL; refine gor hL ?_))
      refine po_appA hL hr2 ?_ ?_; (· simp; omega); clear hL; intro vF' t fF' hL; obtain ⟨fF'_r, fF'_w, fF'_w1, fF'_c, fF'_s, fF'_d⟩ := id fF'
      rw [show T.faults.map Fl.row ++ [[.str (bs [108, 97, 115, 116]), .int .i64 n]] = (T.faults ++ [(⟨lastN, n⟩ : Fl)]).map Fl.row by rw [List.map_append]; rfl] at hL fF' fF'_r fF'_w1
      refine gor hL ?_; (repeat (clear hL; intro t hL; refine gor hL ?_))
      refine po_callv rfl rfl (outC n 0 65535 t p5 (hL.bk)) (fun _ _ h => False.elim h) ?_
      refine gor hL ?_; (repeat (clear hL; intro t hL; refine gor hL ?_))
      refine pcond_b rfl (fun hz => ?_) (fun hz => ?_)
      · have hz' : outE n 0 65535 = 0 := by simpa using hz
        have hin : ¬ inNum n = false := fun e => by rw [outE_num, if_pos e] at hz'; cases hz'
        refine gor hL ?_; (repeat (clear hL; intro t hL; refine gor hL ?_))
        refine po rfl (slc_vf (j := T.faults.length) rfl fF' ?_ (by simp)) ?_
        · show AV.d (Dat.int .i64 (IntKind.i64.wrap _)) = _
          rw [IntWalk.i64_in _ (by simp; omega)]
          simp [i64]
        rw [show ((T.faults ++ [(⟨lastN, n⟩ : Fl)]).map Fl.row).take T.faults.length = T.faults.map Fl.row by rw [List.map_append, List.take_append_of_le_length (by simp), List.take_of_length_le (by simp)]]
        rw [hz']
        refine gor hL ?_; (repeat (clear hL; intro t hL; refine gor hL ?_))
        (apply prangeA (T.faults.length) (by omega) (fun a z => put z (some 10) (i64 a)) (fun k a t => Lay st [.box p7 [.d (.str T.name), .d (.int .i64 T.number), .d (.int .i64 T.version), v1, vF', v3], .box p5 [.d (.int .i64 n)]] t ∧ a = if n ∈ (T.faults.take k).map Fl.number then 9 else 0) ((0 : Int))); (· exact trimA); (· exact fun _ _ => rfl)
        · exact ⟨hL.pk, rfl⟩
        · rintro a t ⟨hL, ha⟩
          rw [List.take_length] at ha
          refine gor hL ?_; (repeat (clear hL; intro t hL; refine gor hL ?_))
          refine ⟨_, _, .refl _ _, TB.mk T.name T.number T.version T.types (T.faults ++ [⟨lastN, n⟩]) T.procs, _, v1, vF', v3, tr2, hL.pk, f1_w1, fF'_w1, f3_w1, fit_fault htf hl4.2.1 (by decide), ?_⟩
          rw [hF, if_neg hin, ha]
        · rintro k hk a t ⟨hL, ha⟩
          obtain ⟨y, hy, hm⟩ := elem_at hk
          have hsn : (T.faults.take (k + 1)).map Fl.number = (T.faults.take k).map Fl.number ++ [y.number] := map_take_snoc _ hy
          refine pblock ?_
          (refine gor hL ?_; (repeat (clear hL; intro t hL; refine gor hL ?_))); (with_reducible refine po_allocL hL rfl ?_); clear hL; intro p14 t hL
          refine gor hL ?_; (repeat (clear hL; intro t hL; refine gor hL ?_))
          refine pcond_b rfl (fun hy2 => ?_) (fun hy2 => ?_)
          · have hy2' : y.number = n := by simpa using hy2
            refine gor hL ?_; (repeat (clear hL; intro t hL; refine gor hL ?_))
            refine ⟨_, ⟨hL.pk, ?_⟩, tr2⟩
            rw [hsn, if_pos (by rw [hy2']; simp)]
          · have hy2' : y.number ≠ n := by simpa using hy2
            refine gor hL ?_; (repeat (clear hL; intro t hL; refine gor hL ?_))
            refine ⟨_, ⟨hL.pk, ?_⟩, tr2⟩
            rw [hsn, ha]
            simp only [List.mem_append, List.mem_singleton, show (n = y.number) = False from eq_false fun e => hy2' e.symm, or_false]
      · refine gor hL ?_; (repeat (clear hL; intro t hL; refine gor hL ?_))
        have hz' : ¬ outE n 0 65535 = 0 := by simpa using hz
        refine ⟨_, _, .refl _ _, TB.mk T.name T.number T.version T.types (T.faults ++ [⟨lastN, n⟩]) T.procs, _, v1, vF', v3, tr2, hL.pk, f1_w1, fF'_w1, f3_w1, fit_fault htf hl4.2.1 (by decide), ?_⟩
        rw [hF]
        rw [outE_num] at hz' ⊢
        split
        · rfl
        · rename_i h
          rw [if_neg h] at hz'
          exact absurd rfl hz'
    refine gor hL ?_; (repeat (clear hL; intro t hL; refine gor hL ?_))
    refine pcond_b rfl (fun h12 => ?_) (fun h12 => ?_)
    · refine gor hL ?_; (repeat (clear hL; intro t hL; refine gor hL ?_))
      refine po_appA hL hr2 ?_ ?_; (· simp; omega); clear hL; intro vF' t fF' hL; obtain ⟨fF'_r, fF'_w, fF'_w1, fF'_c, fF'_s, fF'_d⟩ := id fF'
      rw [show T.faults.map Fl.row ++ [[.str (bs [102, 97, 99, 101]), .int .i64 999]] = (T.faults ++ [(⟨face, 999⟩ : Fl)]).map Fl.row by rw [List.map_append]; rfl] at hL fF' fF'_r fF'_w1
      refine gor hL ?_; (repeat (clear hL; intro t hL; refine gor hL ?_))
      exact ⟨_, _, .refl _ _, TB.mk T.name T.number T.version T.types (T.faults ++ [⟨face, 999⟩]) T.procs, _, v1, vF', v3, tr2, hL.pk, f1_w1, fF'_w1, f3_w1, fit_fault htf hl4.2.1 (by decide), hF'⟩
    refine gor hL ?_; (repeat (clear hL; intro t hL; refine gor hL ?_))
    refine pcond_b rfl (fun h13 => ?_) (fun h13 => ?_)
    · refine gor hL ?_; (repeat (clear hL; intro t hL; refine gor hL ?_))
      refine po_appA hL hr3 ?_ ?_; (· simp; omega); clear hL; intro vP' t fP' hL; obtain ⟨fP'_r, fP'_w, fP'_w1, fP'_c, fP'_s, fP'_d⟩ := id fP'
      rw [show T.procs.map Pc.row ++ [[.str (bs [108, 97, 115, 116]), .int .i64 999, .int .u8 0, .int .i64 0, .sl [], .sl [], .int .u8 0, .int .i64 0, .sl [], .sl [], .int .u8 0, .int .i64 n]] = (T.procs ++ ([⟨lastN, 999, KT.zero, KT.zero, 0, n⟩] : List Pc)).map Pc.row by rw [List.map_append]; rfl] at hL fP' fP'_r fP'_w1
      refine gor hL ?_; (repeat (clear hL; intro t hL; refine gor hL ?_))
      refine po_callv rfl rfl (outC n 1 1000 t p5 (hL.bk)) (fun _ _ h => False.elim h) ?_
      refine gor hL ?_; (repeat (clear hL; intro t hL; refine gor hL ?_))
      refine ⟨_, _, .refl _ _, TB.mk T.name T.number T.version T.types T.faults (T.procs ++ [⟨lastN, 999, KT.zero, KT.zero, 0, n⟩]), _, v1, v2, vP', tr2, hL.pk, f1_w1, f2_w1, fP'_w1, fit_procs htf hl4.2.2 (by simp) (fun p hp => ?_) (fun p hp => ?_), (hP 0 n).trans (out_ti n)⟩
      · revert p; simp only [List.mem_cons, List.not_mem_nil, or_false, forall_eq_or_imp, forall_eq]; decide
      · revert p; simp
    refine gor hL ?_; (repeat (clear hL; intro t hL; refine gor hL ?_))
    refine pcond_b rfl (fun h14 => ?_) (fun h14 => ?_)
    · refine gor hL ?_; (repeat (clear hL; intro t hL; refine gor hL ?_))
      refine po_appA hL hr3 ?_ ?_; (· simp; omega); clear hL; intro vP' t fP' hL; obtain ⟨fP'_r, fP'_w, fP'_w1, fP'_c, fP'_s, fP'_d⟩ := id fP'
      rw [show T.procs.map Pc.row ++ [[.str (bs [108, 97, 115, 116]), .int .i64 999, .int .u8 0, .int .i64 0, .sl [], .sl [], .int .u8 0, .int .i64 0, .sl [], .sl [], .int .u8 3, .int .i64 9]] = (T.procs ++ ([⟨lastN, 999, KT.zero, KT.zero, 3, 9⟩] : List Pc)).map Pc.row by rw [List.map_append]; rfl] at hL fP' fP'_r fP'_w1
      refine gor hL ?_; (repeat (clear hL; intro t hL; refine gor hL ?_))
      refine ⟨_, _, .refl _ _, TB.mk T.name T.number T.version T.types T.faults (T.procs ++ [⟨lastN, 999, KT.zero, KT.zero, 3, 9⟩]), _, v1, v2, vP', tr2, hL.pk, f1_w1, f2_w1, fP'_w1, fit_procs htf hl4.2.2 (by simp) (fun p hp => ?_) (fun p hp => ?_), hP 3 9⟩
      · revert p; simp only [List.mem_cons, List.not_mem_nil, or_false, forall_eq_or_imp, forall_eq]; decide
      · revert p; simp
    · refine gor hL ?_; (repeat (clear hL; intro t hL; refine gor hL ?_))
      refine po_appA (hn := List.forall_mem_cons.2 ⟨rfl, List.forall_mem_cons.2 ⟨rfl, fun _ h => (by cases h)⟩⟩) hL hr3 ?_ ?_
      · simp; omega
      clear hL; intro vP' t fP' hL
      obtain ⟨fP'_r, fP'_w, fP'_w1, fP'_c, fP'_s, fP'_d⟩ := id fP'
      rw [show T.procs.map Pc.row ++ [[.str (bs [120]), .int .i64 999, .int .u8 0, .int .i64 0, .sl [], .sl [], .int .u8 0, .int .i64 0, .sl [], .sl [], .int .u8 0, .int .i64 9], [.str (bs [121]), .int .i64 999, .int .u8 0, .int .i64 0, .sl [], .sl [], .int .u8 0, .int .i64 0, .sl [], .sl [], .int .u8 0, .int .i64 9]] = (T.procs ++ ([⟨xN, 999, KT.zero, KT.zero, 0, 9⟩, ⟨yN, 999, KT.zero, KT.zero, 0, 9⟩] : List Pc)).map Pc.row by rw [List.map_append]; rfl] at hL fP' fP'_r fP'_w1
      refine gor hL ?_; (repeat (clear hL; intro t hL; refine gor hL ?_))
      refine ⟨_, _, .refl _ _, TB.mk T.name T.number T.version T.types T.faults (T.procs ++ [⟨xN, 999, KT.zero, KT.zero, 0, 9⟩, ⟨yN, 999, KT.zero, KT.zero, 0, 9⟩]), _, v1, v2, vP', tr2, hL.pk, f1_w1, f2_w1, fP'_w1, fit_procs htf hl4.2.2 (by simp) (fun p hp => ?_) (fun p hp => ?_), hP'⟩
      · revert p; simp only [List.mem_cons, List.not_mem_nil, or_false, forall_eq_or_imp, forall_eq]; decide
      · revert p; simp
end Go.Pv
