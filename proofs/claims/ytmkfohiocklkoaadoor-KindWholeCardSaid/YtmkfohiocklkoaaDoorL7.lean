/- Functions of the program, by value. No condition. -/
import Derived.Test.YtmkfohiocklkoaaDoorL6
import Derived.Test.YtmkfohiocklkoaaDoorD10
namespace Go.Pv
open Go.Proofs
set_option maxRecDepth 100000
set_option maxHeartbeats 8000000

/-- prompter/prompterlaw05.KindWhole$1 -/
abbrev c20_2 : PCode :=
 (.seq (.region [⟨(.some 3), (.mov (.c (.d (.int .i64 10000)))), .none⟩])
 .ret)
abbrev c20_1 : PCode :=
 (.cond (.t 9)
  c20_2
  .skip)
abbrev c20_7 : PCode :=
 (.region [⟨(.some 17), (.mov (.t 4)), .none⟩,
   ⟨(.some 18), (.load .false 1 (.t 1) .false), .none⟩,
   ⟨(.some 19), (.load .true 4 (.t 6) .false), .none⟩,
   ⟨(.some 20), (.callv0 (.t 18) [(.t 19)]), .none⟩,
   ⟨(.some 21), (.bin .add (.t 17) (.t 20)), .none⟩,
   ⟨(.some 4), (.mov (.t 21)), .none⟩])
abbrev c20_6 : PCode :=
 (.block 1 (.seq (.region [⟨(.some 15), (.iaddr 4 (.t 11) (.t 13)), .none⟩,
   ⟨(.some 16), (.load .true 4 (.t 15) .false), .none⟩,
   ⟨(.some 6), (.alloc [(.d (.int .u8 0)), (.d (.int .i64 0)), (.full []), (.full [])]), .none⟩,
   ⟨.none, (.store 4 (.t 6) (.t 16)), .none⟩])
 c20_7))
abbrev c20_5 : PCode :=
 (.keep [1, 4, 11, 12, 13] (.block 0 (.loop (.some [13, 4, 1, 11, 12]) (.seq (.region [⟨(.some 14), (.bin .lss (.t 13) (.t 12)), .none⟩])
 (.seq (.cond (.t 14)
  .skip
  (.exit 0))
 (.seq c20_6
 (.region [⟨(.some 22), (.bin .add (.t 13) (.c (.d (.int .i64 1)))), .none⟩,
   ⟨(.some 13), (.mov (.t 22)), .none⟩])))))))
abbrev c20_8 : PCode :=
 (.seq (.region [⟨(.some 23), (.mov (.t 4)), .none⟩,
   ⟨(.some 3), (.mov (.t 23)), .none⟩])
 .ret)
abbrev c20_4 : PCode :=
 (.seq (.seq (.region [⟨(.some 10), (.faddr 3 (.t 2)), .none⟩,
   ⟨(.some 11), (.load .false 1 (.t 10) .false), .none⟩,
   ⟨(.some 12), (.len (.t 11)), .none⟩,
   ⟨(.some 13), (.mov (.c (.d (.int .i64 0)))), .none⟩])
 c20_5)
 c20_8)
abbrev c20_3 : PCode :=
 (.keep [1, 2] (.seq (.region [⟨(.some 4), (.mov (.c (.d (.int .i64 1)))), .none⟩])
 c20_4))
abbrev c20_0 : PCode :=
 (.seq (.seq (.region [⟨(.some 7), (.faddr 0 (.t 2)), .none⟩,
   ⟨(.some 8), (.load .false 1 (.t 7) .false), .none⟩,
   ⟨(.some 9), (.bin .eql (.t 8) (.c (.d (.int .u8 9)))), .none⟩])
 c20_1)
 c20_3)
def c20 : PFun := ⟨
 (.seq (.region [⟨(.some 2), (.box 4 (.t 0)), .none⟩,
   ⟨(.some 3), (.mov (.c (.d (.int .i64 0)))), .none⟩])
 c20_0),
 2, 24, [(.tmp 3)]⟩

/-- prompter/prompterlaw05.KindWhole -/
abbrev c8_2 : PCode :=
 (.seq (.region [⟨(.some 6), (.mov (.c (.d (.bool .false)))), .none⟩])
 .ret)
abbrev c8_1 : PCode :=
 (.cond (.t 30)
  c8_2
  .skip)
abbrev c8_5 : PCode :=
 (.seq (.region [⟨(.some 6), (.mov (.c (.d (.bool .true)))), .none⟩])
 .ret)
abbrev c8_4 : PCode :=
 (.cond (.t 33)
  c8_5
  .skip)
abbrev c8_9 : PCode :=
 (.seq (.region [⟨(.some 6), (.mov (.c (.d (.bool .true)))), .none⟩])
 .ret)
abbrev c8_8 : PCode :=
 (.cond (.t 38)
  c8_9
  .skip)
abbrev c8_19 : PCode :=
 (.seq (.region [⟨(.some 6), (.mov (.c (.d (.bool .false)))), .none⟩])
 .ret)
abbrev c8_18 : PCode :=
 (.cond (.t 81)
  c8_19
  .skip)
abbrev c8_28 : PCode :=
 (.seq (.region [⟨(.some 6), (.mov (.c (.d (.bool .false)))), .none⟩])
 .ret)
abbrev c8_27 : PCode :=
 (.cond (.t 113)
  c8_28
  .skip)
abbrev c8_26 : PCode :=
 (.keep [2, 7, 8, 10, 11, 16, 17, 41, 42, 43, 87, 88, 89] (.seq (.region [⟨(.some 100), (.faddr 0 (.t 16)), .none⟩,
   ⟨(.some 101), (.load .false 1 (.t 100) .false), .none⟩,
   ⟨(.some 102), (.faddr 2 (.t 10)), .none⟩,
   ⟨(.some 103), (.faddr 2 (.t 102)), .none⟩,
   ⟨(.some 104), (.load .false 1 (.t 103) .false), .none⟩,
   ⟨(.some 105), (.iaddr 1 (.t 104) (.c (.d (.int .i64 0)))), .none⟩,
   ⟨(.some 106), (.load .false 1 (.t 105) .false), .none⟩,
   ⟨(.some 107), (.bin .eql (.t 101) (.t 106)), .none⟩,
   ⟨(.some 108), (.mov (.t 107)), .none⟩,
   ⟨(.some 109), (.load .true 4 (.t 11) .false), (.some (108, .true))⟩,
   ⟨(.some 110), (.load .true 4 (.t 17) .false), (.some (108, .true))⟩,
   ⟨(.some 111), (.callp 17 [(.t 109), (.t 110)]), (.some (108, .true))⟩,
   ⟨(.some 112), (.not (.t 111)), (.some (108, .true))⟩,
   ⟨(.some 113), (.pick (.t 108) (.t 112) (.c (.d (.bool .false)))), .none⟩])
 c8_27))
abbrev c8_25 : PCode :=
 (.keep [2, 7, 8, 10, 11, 16, 41, 42, 43, 87, 88, 89] (.seq (.region [⟨(.some 94), (.load .true 6 (.t 7) .false), .none⟩,
   ⟨(.some 95), (.faddr 1 (.t 16)), .none⟩,
   ⟨(.some 96), (.load .true 4 (.t 95) .false), .none⟩,
   ⟨(.some 97), (.callp 16 [(.t 94), (.t 96)]), .none⟩,
   ⟨(.some 93), (.mov (.t 97)), .none⟩,
   ⟨(.some 98), (.ext (.t 93) 0), .none⟩,
   ⟨(.some 99), (.ext (.t 93) 1), .none⟩,
   ⟨(.some 17), (.alloc [(.d (.int .u8 0)), (.d (.int .i64 0)), (.full []), (.full [])]), .none⟩,
   ⟨.none, (.store 4 (.t 17) (.t 98)), .none⟩,
   ⟨(.some 18), (.mov (.t 99)), .none⟩])
 c8_26))
abbrev c8_24 : PCode :=
 (.block 3 (.seq (.region [⟨(.some 91), (.iaddr 5 (.t 87) (.t 89)), .none⟩,
   ⟨(.some 92), (.load .true 5 (.t 91) .false), .none⟩,
   ⟨(.some 16), (.alloc [(.d (.str (bs []))), (.d (.int .u8 0)), (.d (.int .i64 0)), (.full []), (.full [])]), .none⟩,
   ⟨.none, (.store 5 (.t 16) (.t 92)), .none⟩])
 c8_25))
abbrev c8_23 : PCode :=
 (.keep [2, 7, 8, 10, 11, 41, 42, 43, 87, 88, 89] (.block 2 (.loop (.some [89, 2, 7, 8, 10, 11, 41, 42, 43, 87, 88]) (.seq (.region [⟨(.some 90), (.bin .lss (.t 89) (.t 88)), .none⟩])
 (.seq (.cond (.t 90)
  .skip
  (.exit 2))
 (.seq c8_24
 (.region [⟨(.some 114), (.bin .add (.t 89) (.c (.d (.int .i64 1)))), .none⟩,
   ⟨(.some 89), (.mov (.t 114)), .none⟩])))))))
abbrev c8_22 : PCode :=
 (.seq (.region [⟨(.some 86), (.faddr 3 (.t 7)), .none⟩,
   ⟨(.some 87), (.load .false 1 (.t 86) .false), .none⟩,
   ⟨(.some 88), (.len (.t 87)), .none⟩,
   ⟨(.some 89), (.mov (.c (.d (.int .i64 0)))), .none⟩])
 c8_23)
abbrev c8_21 : PCode :=
 (.cond (.t 85)
  c8_22
  .skip)
abbrev c8_32 : PCode :=
 (.seq (.region [⟨(.some 6), (.mov (.c (.d (.bool .false)))), .none⟩])
 .ret)
abbrev c8_31 : PCode :=
 (.cond (.t 130)
  c8_32
  .skip)
abbrev c8_30 : PCode :=
 (.keep [2, 7, 8, 10, 19, 20, 41, 42, 43] (.seq (.region [⟨(.some 122), (.mov (.t 20)), .none⟩,
   ⟨(.some 123), (.not (.t 122)), .none⟩,
   ⟨(.some 124), (.mov (.t 123)), .none⟩,
   ⟨(.some 125), (.faddr 0 (.t 19)), (.some (124, .false))⟩,
   ⟨(.some 126), (.load .false 1 (.t 125) .false), (.some (124, .false))⟩,
   ⟨(.some 127), (.faddr 0 (.t 10)), (.some (124, .false))⟩,
   ⟨(.some 128), (.load .false 1 (.t 127) .false), (.some (124, .false))⟩,
   ⟨(.some 129), (.bin .neq (.t 126) (.t 128)), (.some (124, .false))⟩,
   ⟨(.some 130), (.pick (.t 124) (.c (.d (.bool .true))) (.t 129)), .none⟩])
 c8_31))
abbrev c8_29 : PCode :=
 (.keep [2, 7, 8, 10, 41, 42, 43] (.seq (.region [⟨(.some 116), (.load .true 6 (.t 7) .false), .none⟩,
   ⟨(.some 117), (.faddr 1 (.t 10)), .none⟩,
   ⟨(.some 118), (.load .false 1 (.t 117) .false), .none⟩,
   ⟨(.some 119), (.callp 21 [(.t 116), (.t 118)]), .none⟩,
   ⟨(.some 115), (.mov (.t 119)), .none⟩,
   ⟨(.some 120), (.ext (.t 115) 0), .none⟩,
   ⟨(.some 121), (.ext (.t 115) 1), .none⟩,
   ⟨(.some 19), (.alloc [(.d (.str (bs []))), (.d (.int .i64 0)), (.d (.int .u8 0)), (.d (.int .i64 0)), (.full []), (.full []), (.d (.int .u8 0)), (.d (.int .i64 0)), (.full []), (.full []), (.d (.int .u8 0)), (.d (.int .i64 0))]), .none⟩,
   ⟨.none, (.store 12 (.t 19) (.t 120)), .none⟩,
   ⟨(.some 20), (.mov (.t 121)), .none⟩])
 c8_30))
abbrev c8_20 : PCode :=
 (.keep [2, 7, 8, 10, 11, 41, 42, 43] (.seq (.seq (.region [⟨(.some 82), (.faddr 2 (.t 10)), .none⟩,
   ⟨(.some 83), (.faddr 0 (.t 82)), .none⟩,
   ⟨(.some 84), (.load .false 1 (.t 83) .false), .none⟩,
   ⟨(.some 85), (.bin .eql (.t 84) (.c (.d (.int .u8 9)))), .none⟩])
 c8_21)
 c8_29))
abbrev c8_17 : PCode :=
 (.keep [2, 7, 8, 10, 11, 12, 13, 14, 41, 42, 43] (.seq (.seq (.region [⟨(.some 60), (.mov (.t 12)), .none⟩,
   ⟨(.some 61), (.bin .neq (.t 60) (.c (.d (.int .i64 0)))), .none⟩,
   ⟨(.some 62), (.mov (.t 61)), .none⟩,
   ⟨(.some 63), (.mov (.t 14)), (.some (62, .false))⟩,
   ⟨(.some 64), (.bin .neq (.t 63) (.c (.d (.int .i64 0)))), (.some (62, .false))⟩,
   ⟨(.some 65), (.pick (.t 62) (.c (.d (.bool .true))) (.t 64)), .none⟩,
   ⟨(.some 66), (.mov (.t 65)), .none⟩,
   ⟨(.some 67), (.load .false 1 (.t 8) .false), (.some (66, .false))⟩,
   ⟨(.some 68), (.load .true 4 (.t 11) .false), (.some (66, .false))⟩,
   ⟨(.some 69), (.callvp (.t 67) [(.t 68)]), (.some (66, .false))⟩,
   ⟨(.some 70), (.load .true 6 (.t 7) .false), (.some (66, .false))⟩,
   ⟨(.some 71), (.faddr 2 (.t 10)), (.some (66, .false))⟩,
   ⟨(.some 72), (.load .true 4 (.t 71) .false), (.some (66, .false))⟩,
   ⟨(.some 73), (.callp 18 [(.t 70), (.t 72), (.c (.d (.int .i64 0)))]), (.some (66, .false))⟩,
   ⟨(.some 74), (.bin .neq (.t 69) (.t 73)), (.some (66, .false))⟩,
   ⟨(.some 75), (.pick (.t 66) (.c (.d (.bool .true))) (.t 74)), .none⟩,
   ⟨(.some 76), (.mov (.t 75)), .none⟩,
   ⟨(.some 77), (.load .true 4 (.t 11) .false), (.some (76, .false))⟩,
   ⟨(.some 78), (.load .true 4 (.t 13) .false), (.some (76, .false))⟩,
   ⟨(.some 79), (.callp 17 [(.t 77), (.t 78)]), (.some (76, .false))⟩,
   ⟨(.some 80), (.not (.t 79)), (.some (76, .false))⟩,
   ⟨(.some 81), (.pick (.t 76) (.c (.d (.bool .true))) (.t 80)), .none⟩])
 c8_18)
 c8_20))
abbrev c8_16 : PCode :=
 (.keep [2, 7, 8, 10, 11, 12, 41, 42, 43] (.seq (.region [⟨(.some 55), (.load .true 6 (.t 7) .false), .none⟩,
   ⟨(.some 56), (.load .true 4 (.t 11) .false), .none⟩,
   ⟨(.some 57), (.callp 16 [(.t 55), (.t 56)]), .none⟩,
   ⟨(.some 54), (.mov (.t 57)), .none⟩,
   ⟨(.some 58), (.ext (.t 54) 0), .none⟩,
   ⟨(.some 59), (.ext (.t 54) 1), .none⟩,
   ⟨(.some 13), (.alloc [(.d (.int .u8 0)), (.d (.int .i64 0)), (.full []), (.full [])]), .none⟩,
   ⟨.none, (.store 4 (.t 13) (.t 58)), .none⟩,
   ⟨(.some 14), (.mov (.t 59)), .none⟩])
 c8_17))
abbrev c8_15 : PCode :=
 (.keep [2, 7, 8, 10, 41, 42, 43] (.seq (.region [⟨(.some 48), (.load .true 6 (.t 7) .false), .none⟩,
   ⟨(.some 49), (.faddr 2 (.t 10)), .none⟩,
   ⟨(.some 50), (.load .true 4 (.t 49) .false), .none⟩,
   ⟨(.some 51), (.callp 16 [(.t 48), (.t 50)]), .none⟩,
   ⟨(.some 47), (.mov (.t 51)), .none⟩,
   ⟨(.some 52), (.ext (.t 47) 0), .none⟩,
   ⟨(.some 53), (.ext (.t 47) 1), .none⟩,
   ⟨(.some 11), (.alloc [(.d (.int .u8 0)), (.d (.int .i64 0)), (.full []), (.full [])]), .none⟩,
   ⟨.none, (.store 4 (.t 11) (.t 52)), .none⟩,
   ⟨(.some 12), (.mov (.t 53)), .none⟩])
 c8_16))
abbrev c8_14 : PCode :=
 (.block 1 (.seq (.region [⟨(.some 45), (.iaddr 12 (.t 41) (.t 43)), .none⟩,
   ⟨(.some 46), (.load .true 12 (.t 45) .false), .none⟩,
   ⟨(.some 10), (.alloc [(.d (.str (bs []))), (.d (.int .i64 0)), (.d (.int .u8 0)), (.d (.int .i64 0)), (.full []), (.full []), (.d (.int .u8 0)), (.d (.int .i64 0)), (.full []), (.full []), (.d (.int .u8 0)), (.d (.int .i64 0))]), .none⟩,
   ⟨.none, (.store 12 (.t 10) (.t 46)), .none⟩])
 c8_15))
abbrev c8_13 : PCode :=
 (.keep [2, 7, 8, 41, 42, 43] (.block 0 (.loop (.some [43, 2, 7, 8, 41, 42]) (.seq (.region [⟨(.some 44), (.bin .lss (.t 43) (.t 42)), .none⟩])
 (.seq (.cond (.t 44)
  .skip
  (.exit 0))
 (.seq c8_14
 (.region [⟨(.some 131), (.bin .add (.t 43) (.c (.d (.int .i64 1)))), .none⟩,
   ⟨(.some 43), (.mov (.t 131)), .none⟩])))))))
abbrev c8_38 : PCode :=
 (.region [⟨(.some 146), (.mov (.t 23)), .none⟩,
   ⟨(.some 147), (.mov (.t 146)), .none⟩,
   ⟨(.some 148), (.faddr 1 (.t 25)), (.some (147, .false))⟩,
   ⟨(.some 149), (.load .false 1 (.t 148) .false), (.some (147, .false))⟩,
   ⟨(.some 150), (.mov (.t 2)), (.some (147, .false))⟩,
   ⟨(.some 151), (.bin .eql (.t 149) (.t 150)), (.some (147, .false))⟩,
   ⟨(.some 152), (.pick (.t 147) (.c (.d (.bool .true))) (.t 151)), .none⟩,
   ⟨(.some 23), (.mov (.t 152)), .none⟩])
abbrev c8_37 : PCode :=
 (.block 5 (.seq (.region [⟨(.some 144), (.iaddr 12 (.t 140) (.t 142)), .none⟩,
   ⟨(.some 145), (.load .true 12 (.t 144) .false), .none⟩,
   ⟨(.some 25), (.alloc [(.d (.str (bs []))), (.d (.int .i64 0)), (.d (.int .u8 0)), (.d (.int .i64 0)), (.full []), (.full []), (.d (.int .u8 0)), (.d (.int .i64 0)), (.full []), (.full []), (.d (.int .u8 0)), (.d (.int .i64 0))]), .none⟩,
   ⟨.none, (.store 12 (.t 25) (.t 145)), .none⟩])
 c8_38))
abbrev c8_36 : PCode :=
 (.keep [2, 7, 22, 23, 140, 141, 142] (.block 4 (.loop (.some [142, 23, 2, 7, 22, 140, 141]) (.seq (.region [⟨(.some 143), (.bin .lss (.t 142) (.t 141)), .none⟩])
 (.seq (.cond (.t 143)
  .skip
  (.exit 4))
 (.seq c8_37
 (.region [⟨(.some 153), (.bin .add (.t 142) (.c (.d (.int .i64 1)))), .none⟩,
   ⟨(.some 142), (.mov (.t 153)), .none⟩])))))))
abbrev c8_42 : PCode :=
 (.keep [7, 22, 23, 27, 28] (.seq (.region [⟨(.some 165), (.mov (.t 22)), .none⟩,
   ⟨(.some 166), (.bin .eql (.t 165) (.c (.d (.int .i64 10)))), .none⟩,
   ⟨(.some 167), (.mov (.t 166)), .none⟩,
   ⟨(.some 168), (.mov (.t 27)), (.some (167, .true))⟩,
   ⟨(.some 169), (.mov (.t 23)), (.some (167, .true))⟩,
   ⟨(.some 170), (.eqB .false (.t 168) (.t 169)), (.some (167, .true))⟩,
   ⟨(.some 171), (.pick (.t 167) (.t 170) (.c (.d (.bool .false)))), .none⟩,
   ⟨(.some 172), (.mov (.t 171)), .none⟩,
   ⟨(.some 173), (.load .true 6 (.t 7) .false), (.some (172, .true))⟩,
   ⟨(.some 174), (.load .true 6 (.t 28) .false), (.some (172, .true))⟩,
   ⟨(.some 175), (.callp 19 [(.t 173), (.t 174)]), (.some (172, .true))⟩,
   ⟨(.some 176), (.not (.t 175)), (.some (172, .true))⟩,
   ⟨(.some 177), (.pick (.t 172) (.t 176) (.c (.d (.bool .false)))), .none⟩,
   ⟨(.some 6), (.mov (.t 177)), .none⟩])
 .ret))
abbrev c8_41 : PCode :=
 (.keep [7, 22, 23, 27, 28] (.seq (.region [⟨(.some 161), (.faddr 2 (.t 28)), .none⟩,
   ⟨(.some 162), (.load .false 1 (.t 161) .false), .none⟩,
   ⟨(.some 163), (.bin .add (.t 162) (.c (.d (.int .i64 1)))), .none⟩,
   ⟨(.some 164), (.faddr 2 (.t 28)), .none⟩,
   ⟨.none, (.store 1 (.t 164) (.t 163)), .none⟩])
 c8_42))
abbrev c8_40 : PCode :=
 (.keep [7, 22, 23, 27] (.seq (.region [⟨(.some 160), (.load .true 6 (.t 7) .false), .none⟩,
   ⟨(.some 28), (.alloc [(.d (.str (bs []))), (.d (.int .i64 0)), (.d (.int .i64 0)), (.full []), (.full []), (.full [])]), .none⟩,
   ⟨.none, (.store 6 (.t 28) (.t 160)), .none⟩])
 c8_41))
abbrev c8_39 : PCode :=
 (.seq (.region [⟨(.some 155), (.load .true 6 (.t 7) .false), .none⟩,
   ⟨(.some 156), (.mov (.t 2)), .none⟩,
   ⟨(.some 157), (.callp 21 [(.t 155), (.t 156)]), .none⟩,
   ⟨(.some 154), (.mov (.t 157)), .none⟩,
   ⟨(.some 158), (.ext (.t 154) 0), .none⟩,
   ⟨(.some 159), (.ext (.t 154) 1), .none⟩,
   ⟨(.some 26), (.alloc [(.d (.str (bs []))), (.d (.int .i64 0)), (.d (.int .u8 0)), (.d (.int .i64 0)), (.full []), (.full []), (.d (.int .u8 0)), (.d (.int .i64 0)), (.full []), (.full []), (.d (.int .u8 0)), (.d (.int .i64 0))]), .none⟩,
   ⟨.none, (.store 12 (.t 26) (.t 158)), .none⟩,
   ⟨(.some 27), (.mov (.t 159)), .none⟩])
 c8_40)
abbrev c8_35 : PCode :=
 (.seq (.seq (.region [⟨(.some 139), (.faddr 5 (.t 7)), .none⟩,
   ⟨(.some 140), (.load .false 1 (.t 139) .false), .none⟩,
   ⟨(.some 141), (.len (.t 140)), .none⟩,
   ⟨(.some 142), (.mov (.c (.d (.int .i64 0)))), .none⟩])
 c8_36)
 c8_39)
abbrev c8_34 : PCode :=
 (.keep [2, 7, 22] (.seq (.region [⟨(.some 23), (.mov (.c (.d (.bool .false)))), .none⟩])
 c8_35))
abbrev c8_33 : PCode :=
 (.seq (.region [⟨(.some 133), (.load .true 6 (.t 7) .false), .none⟩,
   ⟨(.some 134), (.bsl 1 [(.c (.d (.str (bs [110, 111, 119, 104, 101, 114, 101]))))]), .none⟩,
   ⟨(.some 135), (.bld [(.d (.int .u8 0)), (.d (.int .i64 0)), (.full []), (.full [])] [(0, (1, (.c (.d (.int .u8 9))))), (2, (1, (.t 134)))]), .none⟩,
   ⟨(.some 136), (.callp 16 [(.t 133), (.t 135)]), .none⟩,
   ⟨(.some 132), (.mov (.t 136)), .none⟩,
   ⟨(.some 137), (.ext (.t 132) 0), .none⟩,
   ⟨(.some 138), (.ext (.t 132) 1), .none⟩,
   ⟨(.some 21), (.alloc [(.d (.int .u8 0)), (.d (.int .i64 0)), (.full []), (.full [])]), .none⟩,
   ⟨.none, (.store 4 (.t 21) (.t 137)), .none⟩,
   ⟨(.some 22), (.mov (.t 138)), .none⟩])
 c8_34)
abbrev c8_12 : PCode :=
 (.seq (.seq (.region [⟨(.some 40), (.faddr 5 (.t 7)), .none⟩,
   ⟨(.some 41), (.load .false 1 (.t 40) .false), .none⟩,
   ⟨(.some 42), (.len (.t 41)), .none⟩,
   ⟨(.some 43), (.mov (.c (.d (.int .i64 0)))), .none⟩])
 c8_13)
 c8_33)
abbrev c8_11 : PCode :=
 (.seq (.region [⟨(.some 39), (.mkfn 20 [] [(.t 8)]), .none⟩,
   ⟨.none, (.store 1 (.t 8) (.t 39)), .none⟩])
 c8_12)
abbrev c8_10 : PCode :=
 (.keep [2, 7] (.seq (.region [⟨(.some 8), (.alloc [(.d .nilf)]), .none⟩])
 c8_11))
abbrev c8_7 : PCode :=
 (.keep [2, 7] (.seq (.seq (.region [⟨(.some 36), (.load .true 6 (.t 7) .false), .none⟩,
   ⟨(.some 37), (.callp 12 [(.t 36)]), .none⟩,
   ⟨(.some 38), (.bin .neq (.t 37) (.c (.d (.int .i64 0)))), .none⟩])
 c8_8)
 c8_10))
abbrev c8_6 : PCode :=
 (.keep [2, 3] (.seq (.region [⟨(.some 34), (.load .true 4 (.t 3) .false), .none⟩,
   ⟨(.some 35), (.callp 11 [(.t 34)]), .none⟩,
   ⟨(.some 7), (.alloc [(.d (.str (bs []))), (.d (.int .i64 0)), (.d (.int .i64 0)), (.full []), (.full []), (.full [])]), .none⟩,
   ⟨.none, (.store 6 (.t 7) (.t 35)), .none⟩])
 c8_7))
abbrev c8_3 : PCode :=
 (.keep [2, 3] (.seq (.seq (.region [⟨(.some 31), (.load .true 4 (.t 3) .false), .none⟩,
   ⟨(.some 32), (.callp 10 [(.t 31)]), .none⟩,
   ⟨(.some 33), (.not (.t 32)), .none⟩])
 c8_4)
 c8_6))
abbrev c8_0 : PCode :=
 (.seq (.seq (.region [⟨(.some 29), (.callp 9 []), .none⟩,
   ⟨(.some 30), (.not (.t 29)), .none⟩])
 c8_1)
 c8_3)
def c8 : PFun := ⟨
 (.seq (.region [⟨(.some 3), (.box 4 (.t 0)), .none⟩,
   ⟨(.some 6), (.mov (.c (.d (.bool .false)))), .none⟩])
 c8_0),
 3, 178, [(.tmp 6)]⟩

theorem e20 : entered Tryd.prog 20 = true := by kernel_rfl
theorem k20 : compFun Tryd.prog (fun _ => 0) 20 = some c20.er := by kernel_rfl
theorem e8 : entered Tryd.prog 8 = true := by kernel_rfl
theorem k8 : compFun Tryd.prog (fun _ => 1) 8 = some c8.er := by kernel_rfl


/-- How many parts a whole type has: the function that calls itself through its variable. -/
theorem plainC : ∀ (x : KT), x.plain = true → x.nodes ≤ 1000 → x.fit → ∀ (st : St) (pc : Nat), st.box pc = some [.d (.fn 20 [] [.ptr pc 0])] → PureAt (PCalls Tryd.prog GK) st 20 [x.av, ptrAt pc] (i64 x.nodes) := by
  intro x
  induction x using KT.ind' with
  | h x ih =>
  intro hp hn hx st pc hpc
  rw [KT.plain_eq, Bool.and_eq_true, bne_iff_ne, List.all_eq_true] at hp
  rw [KT.fit_eq] at hx
  have hne := KT.nodes_eq x
  have hle : ∀ k, ((x.of.take k).map KT.nodes).sum ≤ (x.of.map KT.nodes).sum := fun k => by
    have := congrArg (fun l => (l.map KT.nodes).sum) (List.take_append_drop k x.of)
    simp only [List.map_append, List.sum_append] at this
    omega
  have hof := hx.2.1
  rw [KT.av_eq]
  refine pcalls_of k20 e20 (of_decide_eq_true rfl) ?_; dsimp only [c20]
  refine pstartL ?_; intro t hL; generalize hQ : pfin _ _ = Q
  (refine gor hL ?_; (repeat (clear hL; intro t hL; refine gor hL ?_))); refine po_boxA hL ?_; clear hL; intro p2 t hL
  refine gor hL ?_; (repeat (clear hL; intro t hL; refine gor hL ?_))
  refine pcond_b rfl (fun h9 => ?_) (fun h9 => ?_)
  · exact absurd (by simpa using h9) hp.1
  refine gor hL ?_; (repeat (clear hL; intro t hL; refine gor hL ?_))
  (apply prangeA (x.of.length) (by omega) (fun a z => put z (some 4) (i64 a)) (fun k a t => Lay st [.box p2 [.d (.int .u8 x.kind), .d (.int .i64 x.most), .d (.sl (x.names.map fun s => [.str s])), .d (.sl (x.of.map KT.row))]] t ∧ a = ((1 + ((x.of.take k).map KT.nodes).sum : Nat) : Int)) (1)); (· exact trimA); (· exact fun _ _ => rfl)
  · exact ⟨hL, rfl⟩
  · rintro a t ⟨hL, rfl⟩
    refine gor hL ?_; (repeat (clear hL; intro t hL; refine gor hL ?_))
    rw [← hQ]
    refine pfin_pure ?_ hL.le
    rw [List.take_length, hne]
    rfl
  · rintro k hk a t ⟨hL, rfl⟩
    obtain ⟨y, hy, hm⟩ := elem_at hk
    have hsn : ((x.of.take (k + 1)).map KT.nodes).sum = ((x.of.take k).map KT.nodes).sum + y.nodes := by
      rw [map_take_snoc _ hy, List.sum_append]; simp
    have hk1 := hle (k + 1)
    refine pblock ?_
    (refine gor hL ?_; (repeat (clear hL; intro t hL; refine gor hL ?_))); (with_reducible refine po_allocL hL rfl ?_); clear hL; intro p6 t hL
    refine gor hL ?_; (repeat (clear hL; intro t hL; refine gor hL ?_))
    refine po_callv rfl rfl ((KT.av_eq y) ▸ ih y hm (hp.2 y hm) (by omega) (hx.2.2 y hm) t pc (hL.le.box _ _ hpc)) (fun _ _ h => False.elim h) ?_
    refine gor hL ?_; (repeat (clear hL; intro t hL; refine gor hL ?_))
    refine gnm ?_; rw [IntWalk.i64_in _ (by omega)]
    refine gor hL ?_; (repeat (clear hL; intro t hL; refine gor hL ?_))
    refine ⟨_, ⟨hL.pk, ?_⟩, tr2⟩
    rw [hsn]
    omega

theorem C8 (s : Sm) (hf : s.fit) (kk : Int) (n : Int) : Pure (PCalls Tryd.prog GK) 8 [s.av, .d (.int .u8 kk), .d (.int .i64 n)] (b2 true) := by
  have htf := tb_fit hf
  have htl := htf.procs
  have htt := htf.types.1
  have hck := tb_check hf
  have hdk : ∀ p ∈ s.tb.procs, dokc 20 s.tb.types p.takes := fun p hp => by
    obtain ⟨i, _, rfl⟩ := List.mem_map.1 hp
    exact (pc_dokc hf i).1
  have hfind : ∀ p ∈ s.tb.procs, Find s.tb.procs p.number = some p := fun p hp => by
    obtain ⟨i, hi, rfl⟩ := List.mem_map.1 hp
    exact find_own (by simpa using hi)
  have href : ∀ p ∈ s.tb.procs, p.takes.kind = 9 → cnt 20 s.tb.types p.takes ≤ 200 → ∀ a ∈ s.tb.types, seqB a.name (p.takes.names.getD 0 (bs [])) = true → (wholeM 20 s.tb.types a.ty 200).1.1 = flat 20 s.tb.types p.takes := fun p hp h9 hc a ha hn => by
    obtain ⟨j, hj, rfl⟩ := List.mem_map.1 ha
    exact ref_whole hf h9 (hdk p hp) hc (by simpa using hj) hn
  have hnone := whole_nowhere (s := s)
  have hver : 0 ≤ s.tb.version ∧ s.tb.version < 7 := by show 0 ≤ s.number % 7 ∧ s.number % 7 < 7; omega
  intro st; refine pcalls_of k8 e8 (of_decide_eq_true rfl) ?_; dsimp only [c8]; refine pstartL ?_; intro t hL; generalize hQ : pfin _ _ = Q
  (refine gor hL ?_; (repeat (clear hL; intro t hL; refine gor hL ?_))); refine po_boxA hL ?_; clear hL; intro p1 t hL
  refine gor hL ?_; (repeat (clear hL; intro t hL; refine gor hL ?_))
  refine po_callp rfl C9 ?_
  refine gor hL ?_; (repeat (clear hL; intro t hL; refine gor hL ?_))
  refine po_callp rfl (C10 s hf) ?_
  refine gor hL ?_; (repeat (clear hL; intro t hL; refine gor hL ?_))
  refine pcond_b rfl (fun h1 => ?_) (fun h1 => ?_)
  · refine gor hL ?_; (repeat (clear hL; intro t hL; refine gor hL ?_))
    rw [← hQ]
    exact pfin_pure rfl hL.le
  refine gor hL ?_; (repeat (clear hL; intro t hL; refine gor hL ?_))
  refine po_callp rfl (C11 s hf) ?_
  generalize s.tb = T at *
  (refine gor hL ?_; (repeat (clear hL; intro t hL; refine gor hL ?_))); (with_reducible refine po_allocL hL rfl ?_); clear hL; intro p7 t hL
  refine gor hL ?_; (repeat (clear hL; intro t hL; refine gor hL ?_))
  refine po_callp rfl (C12 T htf) ?_
  rw [hck]
  by_cases hB : T.procs.all (few T.types) = true
  case neg =>
    rw [if_neg hB]
    refine gor hL ?_; (repeat (clear hL; intro t hL; refine gor hL ?_))
    refine gnm ?_; rw [show ((6 : Int) != 0) = true from rfl]
    refine gor hL ?_; (repeat (clear hL; intro t hL; refine gor hL ?_))
    rw [← hQ]
    exact pfin_pure rfl hL.le
  rw [if_pos hB]
  have hfew : ∀ p ∈ T.procs, cnt 20 T.types p.takes ≤ 200 := fun p hp => by
    have := List.all_eq_true.1 hB p hp
    simp only [few, Bool.and_eq_true, decide_eq_true_eq] at this
    exact this.1
  refine gor hL ?_; (repeat (clear hL; intro t hL; refine gor hL ?_))
  refine gnm ?_; rw [show ((0 : Int) != 0) = false from rfl]
  refine gor hL ?_; (repeat (clear hL; intro t hL; refine gor hL ?_))
  (refine gor hL ?_; (repeat (clear hL; intro t hL; refine gor hL ?_))); (with_reducible refine po_allocL hL rfl ?_); clear hL; intro p8 t hL
  refine gor hL ?_; (repeat (clear hL; intro t hL; refine gor hL ?_))
  (apply prangeK hL (T.procs.length) (by omega) (fun _ => True)); (· exact trimA); (· exact fun _ => rfl)
  · trivial
  · intro t hL _
    refine gor hL ?_; (repeat (clear hL; intro t hL; refine gor hL ?_))
    refine po_cp (C16 T.types (.mk 9 0 [nowhere] []) (.str T.name) (.int .i64 T.number) (.int .i64 T.version) (.sl (T.faults.map Fl.row)) (.sl (T.procs.map Pc.row)) htf.types ⟨⟨by decide, fun s hs => by rw [List.mem_singleton.1 hs]; decide⟩, by decide, trivial⟩) ?_
    rw [hnone, zero_av]
    refine gor hL ?_; (repeat (clear hL; intro t hL; refine gor hL ?_))
    (refine gor hL ?_; (repeat (clear hL; intro t hL; refine gor hL ?_))); (with_reducible refine po_allocL hL rfl ?_); clear hL; intro p21 t hL
    refine gor hL ?_; (repeat (clear hL; intro t hL; refine gor hL ?_))
    (apply prangeA (T.procs.length) (by omega) (fun a z => put z (some 23) (b2 a)) (fun k a t => Lay st [.box p7 [.d (.str T.name), .d (.int .i64 T.number), .d (.int .i64 T.version), .d (.sl (T.types.map Al.row)), .d (.sl (T.faults.map Fl.row)), .d (.sl (T.procs.map Pc.row))]] t ∧ a = (T.procs.take k).any fun p => p.number == n) (false)); (· exact trimA); (· exact fun _ _ => rfl)
    · exact ⟨hL.pk, rfl⟩
    · rintro a t ⟨hL, rfl⟩
      rw [List.take_length, ← find_any]
      refine gor hL ?_; (repeat (clear hL; intro t hL; refine gor hL ?_))
      refine po_callp rfl (C21 T htf n) ?_
      generalize (Find T.procs n).getD Pc.zero = q
      refine gor hL ?_; (repeat (clear hL; intro t hL; refine gor hL ?_))
      (refine gor hL ?_; (repeat (clear hL; intro t hL; refine gor hL ?_))); (with_reducible refine po_allocL hL rfl ?_); clear hL; intro p26 t hL
      refine gor hL ?_; (repeat (clear hL; intro t hL; refine gor hL ?_))
      (refine gor hL ?_; (repeat (clear hL; intro t hL; refine gor hL ?_))); (with_reducible refine po_allocL hL rfl ?_); clear hL; intro p28 t hL
      refine gor hL ?_; (repeat (clear hL; intro t hL; refine gor hL ?_))
      refine gnm ?_; rw [IntWalk.i64_in _ (by omega)]
      refine gor hL ?_; (repeat (clear hL; intro t hL; refine gor hL ?_))
      refine gnm ?_; simp only [beq_self_eq_true, bne_self_eq_false, Int.reduceBEq, Int.reduceBNe]
      refine gor hL ?_; (repeat (clear hL; intro t hL; refine gor hL ?_))
      have hal := alike_version T (v := T.version + 1) (by omega)
      refine po_cp (C19 T { T with version := T.version + 1 } htf) ?_
      rw [hal]
      refine gor hL ?_; (repeat (clear hL; intro t hL; refine gor hL ?_))
      rw [← hQ]
      exact pfin_pure rfl hL.le
    · rintro k hk a t ⟨hL, rfl⟩
      obtain ⟨y, hy, hm⟩ := elem_at hk
      refine pblock ?_
      (refine gor hL ?_; (repeat (clear hL; intro t hL; refine gor hL ?_))); (with_reducible refine po_allocL hL rfl ?_); clear hL; intro p25 t hL
      refine gor hL ?_; (repeat (clear hL; intro t hL; refine gor hL ?_))
      refine ⟨_, ⟨hL.pk, ?_⟩, tr2⟩
      rw [take_snoc hy, List.any_append]
      simp
  · intro k hk t hL _
    obtain ⟨y, hy, hm⟩ := elem_at hk
    have hd := hdk y hm
    have hc := hfew y hm
    have hw := whole_few hd hc
    have hxf := flat_fit (d := 20) (htf.pfit y hm).1 htf.types.2
    have hxp := flat_plain hd
    have hww := whole_few (dokc_flat (types' := T.types) hd) (by rw [flat_cnt hd]; exact hc)
    rw [flat_same (x := flat 20 T.types y.takes) hxp.1] at hww
    have hmin : min (cnt 20 T.types y.takes) 1000 = (flat 20 T.types y.takes).nodes := by omega
    have hrf := href y hm
    have hsm := same_refl (flat 20 T.types y.takes)
    refine pblock ?_
    (refine gor hL ?_; (repeat (clear hL; intro t hL; refine gor hL ?_))); (with_reducible refine po_allocL hL rfl ?_); clear hL; intro p10 t hL
    refine gor hL ?_; (repeat (clear hL; intro t hL; refine gor hL ?_))
    refine po_cp (C16 T.types y.takes (.str T.name) (.int .i64 T.number) (.int .i64 T.version) (.sl (T.faults.map Fl.row)) (.sl (T.procs.map Pc.row)) htf.types (htf.pfit y hm).1) ?_
    rw [hw]
    have hpc := hxp.2
    generalize flat 20 T.types y.takes = X at *
    rw [KT.av_eq]
    refine gor hL ?_; (repeat (clear hL; intro t hL; refine gor hL ?_))
    (refine gor hL ?_; (repeat (clear hL; intro t hL; refine gor hL ?_))); (with_reducible refine po_allocL hL rfl ?_); clear hL; intro p11 t hL
    refine gor hL ?_; (repeat (clear hL; intro t hL; refine gor hL ?_))
    refine po_cp (C16 T.types X (.str T.name) (.int .i64 T.number) (.int .i64 T.version) (.sl (T.faults.map Fl.row)) (.sl (T.procs.map Pc.row)) htf.types hxf) ?_
    rw [hww, KT.av_eq]
    refine gor hL ?_; (repeat (clear hL; intro t hL; refine gor hL ?_))
    (refine gor hL ?_; (repeat (clear hL; intro t hL; refine gor hL ?_))); (with_reducible refine po_allocL hL rfl ?_); clear hL; intro p13 t hL
    refine gor hL ?_; (repeat (clear hL; intro t hL; refine gor hL ?_))
    refine po_callvp rfl rfl ((KT.av_eq X) ▸ plainC X hxp.1 (by omega) hxf t p8 (hL.bk)) ?_
    refine gor hL ?_; (repeat (clear hL; intro t hL; refine gor hL ?_))
    refine po_cp (C18 20 T.types y.takes (.str T.name) (.int .i64 T.number) (.int .i64 T.version) (.sl (T.faults.map Fl.row)) (.sl (T.procs.map Pc.row)) 0 (dokc_dok hd) htf.types (htf.pfit y hm).1) ?_
    rw [hmin]
    refine gor hL ?_; (repeat (clear hL; intro t hL; refine gor hL ?_))
    refine gnm ?_; rw [show ((X.nodes : Int) != (X.nodes : Int)) = false by simp]
    refine gor hL ?_; (repeat (clear hL; intro t hL; refine gor hL ?_))
    refine po_cp (C17 X X hxf) ?_
    rw [hsm]
    refine gor hL ?_; (repeat (clear hL; intro t hL; refine gor hL ?_))
    refine pseqk ?_
    refine gor hL ?_; (repeat (clear hL; intro t hL; refine gor hL ?_))
    refine pcond_b rfl (fun h9 => ?_) (fun h9 => ?_)
    · have h9' : y.takes.kind = 9 := by simpa using h9
      obtain ⟨nm, hnm⟩ : ∃ nm, y.takes.names = [nm] := List.length_eq_one_iff.1 (hd.1 h9').1
      have hn0 : y.takes.names[0]? = some nm := by rw [hnm]; rfl
      have hrf := hrf h9' hc
      rw [hnm] at hrf
      refine gor hL ?_; (repeat (clear hL; intro t hL; refine gor hL ?_))
      (apply prangeK hL (T.types.length) (by omega) (fun _ => True)); (· exact trimA); (· exact fun _ => rfl)
      · trivial
      · intro t hL _
        refine gor hL ?_; (repeat (clear hL; intro t hL; refine gor hL ?_))
        refine po_cp (C21 T htf y.number) ?_
        rw [hfind y hm]
        simp only [Option.getD_some, Option.isSome_some]
        refine gor hL ?_; (repeat (clear hL; intro t hL; refine gor hL ?_))
        (refine gor hL ?_; (repeat (clear hL; intro t hL; refine gor hL ?_))); (with_reducible refine po_allocL hL rfl ?_); clear hL; intro p19 t hL
        refine gor hL ?_; (repeat (clear hL; intro t hL; refine gor hL ?_))
        refine gnm ?_; simp only [beq_self_eq_true, bne_self_eq_false, Int.reduceBEq, Int.reduceBNe]
        refine gor hL ?_; (repeat (clear hL; intro t hL; refine gor hL ?_))
        exact ⟨hL.pk, trivial⟩
      · intro j hj t hL _
        obtain ⟨a, ha, ham⟩ := elem_at hj
        have hra := hrf a ham
        refine pblock ?_
        (refine gor hL ?_; (repeat (clear hL; intro t hL; refine gor hL ?_))); (with_reducible refine po_allocL hL rfl ?_); clear hL; intro p16 t hL
        refine gor hL ?_; (repeat (clear hL; intro t hL; refine gor hL ?_))
        refine po_cp (C16 T.types a.ty (.str T.name) (.int .i64 T.number) (.int .i64 T.version) (.sl (T.faults.map Fl.row)) (.sl (T.procs.map Pc.row)) htf.types (htf.types.2 a ham)) ?_
        generalize (wholeM 20 T.types a.ty 200).1.1 = Y at *
        rw [KT.av_eq]
        refine gor hL ?_; (repeat (clear hL; intro t hL; refine gor hL ?_))
        (refine gor hL ?_; (repeat (clear hL; intro t hL; refine gor hL ?_))); (with_reducible refine po_allocL hL rfl ?_); clear hL; intro p17 t hL
        refine gor hL ?_; (repeat (clear hL; intro t hL; refine gor hL ?_))
        have he : (a.name.toList == nm.toList) = seqB a.name nm := rfl
        refine gnm ?_; rw [he]
        have hcs := C17 X Y hxf
        rw [KT.av_eq, KT.av_eq] at hcs
        refine po_gcp (fun _ => hcs) ?_
        refine gor hL ?_; (repeat (clear hL; intro t hL; refine gor hL ?_))
        refine pcond_b rfl (fun h2 => ?_) (fun h2 => ?_)
        · exfalso
          cases hn : seqB a.name nm with
          | false => rw [hn] at h2; cases h2
          | true =>
            rw [hra hn, hsm, hn] at h2
            cases h2
        · refine gor hL ?_; (repeat (clear hL; intro t hL; refine gor hL ?_))
          exact ⟨hL.pk, trivial⟩
    · refine gor hL ?_; (repeat (clear hL; intro t hL; refine gor hL ?_))
      refine po_cp (C21 T htf y.number) ?_
      rw [hfind y hm]
      simp only [Option.getD_some, Option.isSome_some]
      refine gor hL ?_; (repeat (clear hL; intro t hL; refine gor hL ?_))
      (refine gor hL ?_; (repeat (clear hL; intro t hL; refine gor hL ?_))); (with_reducible refine po_allocL hL rfl ?_); clear hL; intro p19 t hL
      refine gor hL ?_; (repeat (clear hL; intro t hL; refine gor hL ?_))
      refine gnm ?_; simp only [beq_self_eq_true, bne_self_eq_false, Int.reduceBEq, Int.reduceBNe]
      refine gor hL ?_; (repeat (clear hL; intro t hL; refine gor hL ?_))
      exact ⟨hL.pk, trivial⟩
end Go.Pv
