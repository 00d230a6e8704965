/- Functions of the program, by value. No condition. -/
import Derived.Test.YtmcdhendjlijhaaV6
import Derived.Test.YtmcdhendjlijhaaE1
namespace Go.Pv
open Go.Proofs
set_option maxRecDepth 100000
set_option maxHeartbeats 4000000

/-- prompter/value.check -/
abbrev c45_2 : PCode :=
 (.seq (.region [⟨(.some 6), (.mov (.c (.d (.bool .false)))), .none⟩])
 .ret)
abbrev c45_1 : PCode :=
 (.cond (.t 10)
  c45_2
  .skip)
abbrev c45_6 : PCode :=
 (.seq (.region [⟨(.some 15), (.load .true 4 (.t 4) .false), .none⟩,
   ⟨(.some 16), (.call0 48 [(.t 15)]), .none⟩,
   ⟨(.some 17), (.mov (.t 16)), .none⟩,
   ⟨(.some 18), (.faddr 0 (.t 4)), (.some (17, .true))⟩,
   ⟨(.some 19), (.load .false 1 (.t 18) .false), (.some (17, .true))⟩,
   ⟨(.some 20), (.bin .geq (.t 19) (.c (.d (.int .i64 0)))), (.some (17, .true))⟩,
   ⟨(.some 21), (.pick (.t 17) (.t 20) (.c (.d (.bool .false)))), .none⟩,
   ⟨(.some 22), (.mov (.t 21)), .none⟩,
   ⟨(.some 23), (.faddr 0 (.t 4)), (.some (22, .true))⟩,
   ⟨(.some 24), (.load .false 1 (.t 23) .false), (.some (22, .true))⟩,
   ⟨(.some 25), (.bin .leq (.t 24) (.c (.d (.int .i64 1)))), (.some (22, .true))⟩,
   ⟨(.some 26), (.pick (.t 22) (.t 25) (.c (.d (.bool .false)))), .none⟩,
   ⟨(.some 6), (.mov (.t 26)), .none⟩])
 .ret)
abbrev c45_9 : PCode :=
 (.seq (.region [⟨(.some 29), (.load .true 4 (.t 4) .false), .none⟩,
   ⟨(.some 30), (.call0 48 [(.t 29)]), .none⟩,
   ⟨(.some 31), (.mov (.t 30)), .none⟩,
   ⟨(.some 32), (.faddr 0 (.t 4)), (.some (31, .true))⟩,
   ⟨(.some 33), (.load .false 1 (.t 32) .false), (.some (31, .true))⟩,
   ⟨(.some 34), (.bin .geq (.t 33) (.c (.d (.int .i64 0)))), (.some (31, .true))⟩,
   ⟨(.some 35), (.pick (.t 31) (.t 34) (.c (.d (.bool .false)))), .none⟩,
   ⟨(.some 36), (.mov (.t 35)), .none⟩,
   ⟨(.some 37), (.faddr 0 (.t 4)), (.some (36, .true))⟩,
   ⟨(.some 38), (.load .false 1 (.t 37) .false), (.some (36, .true))⟩,
   ⟨(.some 39), (.bin .leq (.t 38) (.c (.d (.int .i64 65535)))), (.some (36, .true))⟩,
   ⟨(.some 40), (.pick (.t 36) (.t 39) (.c (.d (.bool .false)))), .none⟩,
   ⟨(.some 6), (.mov (.t 40)), .none⟩])
 .ret)
abbrev c45_12 : PCode :=
 (.seq (.region [⟨(.some 43), (.load .true 4 (.t 4) .false), .none⟩,
   ⟨(.some 44), (.call0 48 [(.t 43)]), .none⟩,
   ⟨(.some 45), (.mov (.t 44)), .none⟩,
   ⟨(.some 46), (.faddr 0 (.t 4)), (.some (45, .true))⟩,
   ⟨(.some 47), (.load .false 1 (.t 46) .false), (.some (45, .true))⟩,
   ⟨(.some 48), (.bin .geq (.t 47) (.c (.d (.int .i64 (-2147483648))))), (.some (45, .true))⟩,
   ⟨(.some 49), (.pick (.t 45) (.t 48) (.c (.d (.bool .false)))), .none⟩,
   ⟨(.some 50), (.mov (.t 49)), .none⟩,
   ⟨(.some 51), (.faddr 0 (.t 4)), (.some (50, .true))⟩,
   ⟨(.some 52), (.load .false 1 (.t 51) .false), (.some (50, .true))⟩,
   ⟨(.some 53), (.bin .lss (.t 52) (.c (.d (.int .i64 2147483648)))), (.some (50, .true))⟩,
   ⟨(.some 54), (.pick (.t 50) (.t 53) (.c (.d (.bool .false)))), .none⟩,
   ⟨(.some 6), (.mov (.t 54)), .none⟩])
 .ret)
abbrev c45_15 : PCode :=
 (.seq (.region [⟨(.some 57), (.faddr 0 (.t 4)), .none⟩,
   ⟨(.some 58), (.load .false 1 (.t 57) .false), .none⟩,
   ⟨(.some 59), (.bin .eql (.t 58) (.c (.d (.int .i64 0)))), .none⟩,
   ⟨(.some 60), (.mov (.t 59)), .none⟩,
   ⟨(.some 61), (.faddr 2 (.t 4)), (.some (60, .true))⟩,
   ⟨(.some 62), (.load .false 1 (.t 61) .false), (.some (60, .true))⟩,
   ⟨(.some 63), (.bin .eql (.t 62) (.c (.d (.str (bs []))))), (.some (60, .true))⟩,
   ⟨(.some 64), (.pick (.t 60) (.t 63) (.c (.d (.bool .false)))), .none⟩,
   ⟨(.some 65), (.mov (.t 64)), .none⟩,
   ⟨(.some 66), (.faddr 3 (.t 4)), (.some (65, .true))⟩,
   ⟨(.some 67), (.load .false 1 (.t 66) .false), (.some (65, .true))⟩,
   ⟨(.some 68), (.len (.t 67)), (.some (65, .true))⟩,
   ⟨(.some 69), (.bin .eql (.t 68) (.c (.d (.int .i64 0)))), (.some (65, .true))⟩,
   ⟨(.some 70), (.pick (.t 65) (.t 69) (.c (.d (.bool .false)))), .none⟩,
   ⟨(.some 6), (.mov (.t 70)), .none⟩])
 .ret)
abbrev c45_18 : PCode :=
 (.seq (.region [⟨(.some 73), (.faddr 0 (.t 4)), .none⟩,
   ⟨(.some 74), (.load .false 1 (.t 73) .false), .none⟩,
   ⟨(.some 75), (.bin .eql (.t 74) (.c (.d (.int .i64 0)))), .none⟩,
   ⟨(.some 76), (.mov (.t 75)), .none⟩,
   ⟨(.some 77), (.faddr 1 (.t 4)), (.some (76, .true))⟩,
   ⟨(.some 78), (.load .false 1 (.t 77) .false), (.some (76, .true))⟩,
   ⟨(.some 79), (.call0 47 [(.t 78)]), (.some (76, .true))⟩,
   ⟨(.some 80), (.bin .eql (.t 79) (.c (.d (.int .u64 0)))), (.some (76, .true))⟩,
   ⟨(.some 81), (.pick (.t 76) (.t 80) (.c (.d (.bool .false)))), .none⟩,
   ⟨(.some 82), (.mov (.t 81)), .none⟩,
   ⟨(.some 83), (.faddr 3 (.t 4)), (.some (82, .true))⟩,
   ⟨(.some 84), (.load .false 1 (.t 83) .false), (.some (82, .true))⟩,
   ⟨(.some 85), (.len (.t 84)), (.some (82, .true))⟩,
   ⟨(.some 86), (.bin .eql (.t 85) (.c (.d (.int .i64 0)))), (.some (82, .true))⟩,
   ⟨(.some 87), (.pick (.t 82) (.t 86) (.c (.d (.bool .false)))), .none⟩,
   ⟨(.some 88), (.mov (.t 87)), .none⟩,
   ⟨(.some 89), (.faddr 2 (.t 4)), (.some (88, .true))⟩,
   ⟨(.some 90), (.load .false 1 (.t 89) .false), (.some (88, .true))⟩,
   ⟨(.some 91), (.lenS (.t 90)), (.some (88, .true))⟩,
   ⟨(.some 92), (.faddr 1 (.t 3)), (.some (88, .true))⟩,
   ⟨(.some 93), (.load .false 1 (.t 92) .false), (.some (88, .true))⟩,
   ⟨(.some 94), (.bin .leq (.t 91) (.t 93)), (.some (88, .true))⟩,
   ⟨(.some 95), (.pick (.t 88) (.t 94) (.c (.d (.bool .false)))), .none⟩,
   ⟨(.some 6), (.mov (.t 95)), .none⟩])
 .ret)
abbrev c45_21 : PCode :=
 (.seq (.region [⟨(.some 98), (.load .true 4 (.t 4) .false), .none⟩,
   ⟨(.some 99), (.call0 48 [(.t 98)]), .none⟩,
   ⟨(.some 100), (.mov (.t 99)), .none⟩,
   ⟨(.some 101), (.faddr 0 (.t 4)), (.some (100, .true))⟩,
   ⟨(.some 102), (.load .false 1 (.t 101) .false), (.some (100, .true))⟩,
   ⟨(.some 103), (.bin .geq (.t 102) (.c (.d (.int .i64 0)))), (.some (100, .true))⟩,
   ⟨(.some 104), (.pick (.t 100) (.t 103) (.c (.d (.bool .false)))), .none⟩,
   ⟨(.some 105), (.mov (.t 104)), .none⟩,
   ⟨(.some 106), (.faddr 0 (.t 4)), (.some (105, .true))⟩,
   ⟨(.some 107), (.load .false 1 (.t 106) .false), (.some (105, .true))⟩,
   ⟨(.some 108), (.faddr 2 (.t 3)), (.some (105, .true))⟩,
   ⟨(.some 109), (.load .false 1 (.t 108) .false), (.some (105, .true))⟩,
   ⟨(.some 110), (.len (.t 109)), (.some (105, .true))⟩,
   ⟨(.some 111), (.bin .lss (.t 107) (.t 110)), (.some (105, .true))⟩,
   ⟨(.some 112), (.pick (.t 105) (.t 111) (.c (.d (.bool .false)))), .none⟩,
   ⟨(.some 6), (.mov (.t 112)), .none⟩])
 .ret)
abbrev c45_20 : PCode :=
 (.cond (.t 96)
  c45_21
  .skip)
abbrev c45_19 : PCode :=
 (.seq (.region [⟨(.some 97), (.bin .eql (.t 12) (.c (.d (.int .u8 7)))), .none⟩,
   ⟨(.some 96), (.mov (.t 97)), .none⟩])
 c45_20)
abbrev c45_17 : PCode :=
 (.cond (.t 71)
  c45_18
  c45_19)
abbrev c45_16 : PCode :=
 (.seq (.region [⟨(.some 72), (.bin .eql (.t 12) (.c (.d (.int .u8 4)))), .none⟩,
   ⟨(.some 71), (.mov (.t 72)), .none⟩])
 c45_17)
abbrev c45_14 : PCode :=
 (.cond (.t 55)
  c45_15
  c45_16)
abbrev c45_13 : PCode :=
 (.seq (.region [⟨(.some 56), (.bin .eql (.t 12) (.c (.d (.int .u8 3)))), .none⟩,
   ⟨(.some 55), (.mov (.t 56)), .none⟩])
 c45_14)
abbrev c45_11 : PCode :=
 (.cond (.t 41)
  c45_12
  c45_13)
abbrev c45_10 : PCode :=
 (.seq (.region [⟨(.some 42), (.bin .eql (.t 12) (.c (.d (.int .u8 2)))), .none⟩,
   ⟨(.some 41), (.mov (.t 42)), .none⟩])
 c45_11)
abbrev c45_8 : PCode :=
 (.cond (.t 27)
  c45_9
  c45_10)
abbrev c45_7 : PCode :=
 (.seq (.region [⟨(.some 28), (.bin .eql (.t 12) (.c (.d (.int .u8 1)))), .none⟩,
   ⟨(.some 27), (.mov (.t 28)), .none⟩])
 c45_8)
abbrev c45_5 : PCode :=
 (.cond (.t 13)
  c45_6
  c45_7)
abbrev c45_4 : PCode :=
 (.block 0 (.seq (.region [⟨(.some 14), (.bin .eql (.t 12) (.c (.d (.int .u8 0)))), .none⟩,
   ⟨(.some 13), (.mov (.t 14)), .none⟩])
 c45_5))
abbrev c45_24 : PCode :=
 (.seq (.region [⟨(.some 6), (.mov (.c (.d (.bool .false)))), .none⟩])
 .ret)
abbrev c45_23 : PCode :=
 (.cond (.t 121)
  c45_24
  .skip)
abbrev c45_30 : PCode :=
 (.seq (.region [⟨(.some 6), (.mov (.c (.d (.bool .false)))), .none⟩])
 .ret)
abbrev c45_29 : PCode :=
 (.cond (.t 142)
  c45_30
  .skip)
abbrev c45_31 : PCode :=
 (.keep [3, 4, 5] (.seq (.region [⟨(.some 143), (.faddr 3 (.t 4)), .none⟩,
   ⟨(.some 144), (.load .false 1 (.t 143) .false), .none⟩,
   ⟨(.some 145), (.mkfn 50 [] [(.t 3), (.t 5)]), .none⟩,
   ⟨(.some 146), (.call0 49 [(.t 144), (.t 145)]), .none⟩,
   ⟨(.some 147), (.not (.t 146)), .none⟩,
   ⟨(.some 6), (.mov (.t 147)), .none⟩])
 .ret))
abbrev c45_28 : PCode :=
 (.seq (.seq (.region [⟨(.some 126), (.faddr 0 (.t 4)), .none⟩,
   ⟨(.some 127), (.load .false 1 (.t 126) .false), .none⟩,
   ⟨(.some 128), (.bin .neq (.t 127) (.c (.d (.int .i64 0)))), .none⟩,
   ⟨(.some 129), (.mov (.t 128)), .none⟩,
   ⟨(.some 130), (.faddr 3 (.t 4)), (.some (129, .false))⟩,
   ⟨(.some 131), (.load .false 1 (.t 130) .false), (.some (129, .false))⟩,
   ⟨(.some 132), (.len (.t 131)), (.some (129, .false))⟩,
   ⟨(.some 133), (.faddr 1 (.t 3)), (.some (129, .false))⟩,
   ⟨(.some 134), (.load .false 1 (.t 133) .false), (.some (129, .false))⟩,
   ⟨(.some 135), (.bin .gtr (.t 132) (.t 134)), (.some (129, .false))⟩,
   ⟨(.some 136), (.pick (.t 129) (.c (.d (.bool .true))) (.t 135)), .none⟩,
   ⟨(.some 137), (.mov (.t 136)), .none⟩,
   ⟨(.some 138), (.faddr 3 (.t 3)), (.some (137, .false))⟩,
   ⟨(.some 139), (.load .false 1 (.t 138) .false), (.some (137, .false))⟩,
   ⟨(.some 140), (.len (.t 139)), (.some (137, .false))⟩,
   ⟨(.some 141), (.bin .neq (.t 140) (.c (.d (.int .i64 1)))), (.some (137, .false))⟩,
   ⟨(.some 142), (.pick (.t 137) (.c (.d (.bool .true))) (.t 141)), .none⟩])
 c45_29)
 c45_31)
abbrev c45_36 : PCode :=
 (.seq (.region [⟨(.some 6), (.mov (.c (.d (.bool .false)))), .none⟩])
 .ret)
abbrev c45_35 : PCode :=
 (.cond (.t 161)
  c45_36
  .skip)
abbrev c45_42 : PCode :=
 (.seq (.region [⟨(.some 6), (.mov (.c (.d (.bool .false)))), .none⟩])
 .ret)
abbrev c45_41 : PCode :=
 (.cond (.t 179)
  c45_42
  .skip)
abbrev c45_40 : PCode :=
 (.keep [3, 5, 7, 8, 163, 164, 165] (.seq (.region [⟨(.some 170), (.faddr 3 (.t 3)), .none⟩,
   ⟨(.some 171), (.load .false 1 (.t 170) .false), .none⟩,
   ⟨(.some 172), (.mov (.t 7)), .none⟩,
   ⟨(.some 173), (.iaddr 4 (.t 171) (.t 172)), .none⟩,
   ⟨(.some 174), (.load .true 4 (.t 173) .false), .none⟩,
   ⟨(.some 175), (.load .true 4 (.t 8) .false), .none⟩,
   ⟨(.some 176), (.load .false 1 (.t 5) .false), .none⟩,
   ⟨(.some 177), (.bin .sub (.t 176) (.c (.d (.int .i64 1)))), .none⟩,
   ⟨(.some 178), (.call0 45 [(.t 174), (.t 175), (.t 177)]), .none⟩,
   ⟨(.some 179), (.not (.t 178)), .none⟩])
 c45_41))
abbrev c45_39 : PCode :=
 (.block 3 (.seq (.region [⟨(.some 167), (.mov (.t 165)), .none⟩,
   ⟨(.some 168), (.iaddr 4 (.t 163) (.t 165)), .none⟩,
   ⟨(.some 169), (.load .true 4 (.t 168) .false), .none⟩,
   ⟨(.some 8), (.alloc [(.d (.int .i64 0)), (.d (.flt .f64 0)), (.d (.str (bs []))), (.full [])]), .none⟩,
   ⟨(.some 7), (.mov (.t 167)), .none⟩,
   ⟨.none, (.store 4 (.t 8) (.t 169)), .none⟩])
 c45_40))
abbrev c45_38 : PCode :=
 (.keep [3, 5, 163, 164, 165] (.block 2 (.loop (.some [165, 3, 5, 163, 164]) (.seq (.region [⟨(.some 166), (.bin .lss (.t 165) (.t 164)), .none⟩])
 (.seq (.cond (.t 166)
  .skip
  (.exit 2))
 (.seq c45_39
 (.region [⟨(.some 180), (.bin .add (.t 165) (.c (.d (.int .i64 1)))), .none⟩,
   ⟨(.some 165), (.mov (.t 180)), .none⟩])))))))
abbrev c45_43 : PCode :=
 (.seq (.region [⟨(.some 6), (.mov (.c (.d (.bool .true)))), .none⟩])
 .ret)
abbrev c45_37 : PCode :=
 (.keep [3, 4, 5] (.seq (.seq (.region [⟨(.some 162), (.faddr 3 (.t 4)), .none⟩,
   ⟨(.some 163), (.load .false 1 (.t 162) .false), .none⟩,
   ⟨(.some 164), (.len (.t 163)), .none⟩,
   ⟨(.some 165), (.mov (.c (.d (.int .i64 0)))), .none⟩])
 c45_38)
 c45_43))
abbrev c45_34 : PCode :=
 (.seq (.seq (.region [⟨(.some 150), (.faddr 0 (.t 4)), .none⟩,
   ⟨(.some 151), (.load .false 1 (.t 150) .false), .none⟩,
   ⟨(.some 152), (.bin .neq (.t 151) (.c (.d (.int .i64 0)))), .none⟩,
   ⟨(.some 153), (.mov (.t 152)), .none⟩,
   ⟨(.some 154), (.faddr 3 (.t 4)), (.some (153, .false))⟩,
   ⟨(.some 155), (.load .false 1 (.t 154) .false), (.some (153, .false))⟩,
   ⟨(.some 156), (.len (.t 155)), (.some (153, .false))⟩,
   ⟨(.some 157), (.faddr 3 (.t 3)), (.some (153, .false))⟩,
   ⟨(.some 158), (.load .false 1 (.t 157) .false), (.some (153, .false))⟩,
   ⟨(.some 159), (.len (.t 158)), (.some (153, .false))⟩,
   ⟨(.some 160), (.bin .neq (.t 156) (.t 159)), (.some (153, .false))⟩,
   ⟨(.some 161), (.pick (.t 153) (.c (.d (.bool .true))) (.t 160)), .none⟩])
 c45_35)
 c45_37)
abbrev c45_46 : PCode :=
 (.seq (.region [⟨(.some 183), (.faddr 0 (.t 4)), .none⟩,
   ⟨(.some 184), (.load .false 1 (.t 183) .false), .none⟩,
   ⟨(.some 185), (.bin .geq (.t 184) (.c (.d (.int .i64 0)))), .none⟩,
   ⟨(.some 186), (.mov (.t 185)), .none⟩,
   ⟨(.some 187), (.faddr 0 (.t 4)), (.some (186, .true))⟩,
   ⟨(.some 188), (.load .false 1 (.t 187) .false), (.some (186, .true))⟩,
   ⟨(.some 189), (.faddr 3 (.t 3)), (.some (186, .true))⟩,
   ⟨(.some 190), (.load .false 1 (.t 189) .false), (.some (186, .true))⟩,
   ⟨(.some 191), (.len (.t 190)), (.some (186, .true))⟩,
   ⟨(.some 192), (.bin .lss (.t 188) (.t 191)), (.some (186, .true))⟩,
   ⟨(.some 193), (.pick (.t 186) (.t 192) (.c (.d (.bool .false)))), .none⟩,
   ⟨(.some 194), (.mov (.t 193)), .none⟩,
   ⟨(.some 195), (.faddr 3 (.t 4)), (.some (194, .true))⟩,
   ⟨(.some 196), (.load .false 1 (.t 195) .false), (.some (194, .true))⟩,
   ⟨(.some 197), (.len (.t 196)), (.some (194, .true))⟩,
   ⟨(.some 198), (.bin .eql (.t 197) (.c (.d (.int .i64 1)))), (.some (194, .true))⟩,
   ⟨(.some 199), (.pick (.t 194) (.t 198) (.c (.d (.bool .false)))), .none⟩,
   ⟨(.some 200), (.mov (.t 199)), .none⟩,
   ⟨(.some 201), (.faddr 3 (.t 3)), (.some (200, .true))⟩,
   ⟨(.some 202), (.load .false 1 (.t 201) .false), (.some (200, .true))⟩,
   ⟨(.some 203), (.faddr 0 (.t 4)), (.some (200, .true))⟩,
   ⟨(.some 204), (.load .false 1 (.t 203) .false), (.some (200, .true))⟩,
   ⟨(.some 205), (.iaddr 4 (.t 202) (.t 204)), (.some (200, .true))⟩,
   ⟨(.some 206), (.load .true 4 (.t 205) .false), (.some (200, .true))⟩,
   ⟨(.some 207), (.faddr 3 (.t 4)), (.some (200, .true))⟩,
   ⟨(.some 208), (.load .false 1 (.t 207) .false), (.some (200, .true))⟩,
   ⟨(.some 209), (.iaddr 4 (.t 208) (.c (.d (.int .i64 0)))), (.some (200, .true))⟩,
   ⟨(.some 210), (.load .true 4 (.t 209) .false), (.some (200, .true))⟩,
   ⟨(.some 211), (.load .false 1 (.t 5) .false), (.some (200, .true))⟩,
   ⟨(.some 212), (.bin .sub (.t 211) (.c (.d (.int .i64 1)))), (.some (200, .true))⟩,
   ⟨(.some 213), (.call0 45 [(.t 206), (.t 210), (.t 212)]), (.some (200, .true))⟩,
   ⟨(.some 214), (.pick (.t 200) (.t 213) (.c (.d (.bool .false)))), .none⟩,
   ⟨(.some 6), (.mov (.t 214)), .none⟩])
 .ret)
abbrev c45_45 : PCode :=
 (.cond (.t 181)
  c45_46
  .skip)
abbrev c45_44 : PCode :=
 (.seq (.region [⟨(.some 182), (.bin .eql (.t 123) (.c (.d (.int .u8 8)))), .none⟩,
   ⟨(.some 181), (.mov (.t 182)), .none⟩])
 c45_45)
abbrev c45_33 : PCode :=
 (.cond (.t 148)
  c45_34
  c45_44)
abbrev c45_32 : PCode :=
 (.seq (.region [⟨(.some 149), (.bin .eql (.t 123) (.c (.d (.int .u8 6)))), .none⟩,
   ⟨(.some 148), (.mov (.t 149)), .none⟩])
 c45_33)
abbrev c45_27 : PCode :=
 (.cond (.t 124)
  c45_28
  c45_32)
abbrev c45_26 : PCode :=
 (.block 1 (.seq (.region [⟨(.some 125), (.bin .eql (.t 123) (.c (.d (.int .u8 5)))), .none⟩,
   ⟨(.some 124), (.mov (.t 125)), .none⟩])
 c45_27))
abbrev c45_47 : PCode :=
 (.seq (.region [⟨(.some 6), (.mov (.c (.d (.bool .false)))), .none⟩])
 .ret)
abbrev c45_25 : PCode :=
 (.keep [3, 4, 5] (.seq (.seq (.region [⟨(.some 122), (.faddr 0 (.t 3)), .none⟩,
   ⟨(.some 123), (.load .false 1 (.t 122) .false), .none⟩])
 c45_26)
 c45_47))
abbrev c45_22 : PCode :=
 (.seq (.seq (.region [⟨(.some 113), (.faddr 1 (.t 4)), .none⟩,
   ⟨(.some 114), (.load .false 1 (.t 113) .false), .none⟩,
   ⟨(.some 115), (.call0 47 [(.t 114)]), .none⟩,
   ⟨(.some 116), (.bin .neq (.t 115) (.c (.d (.int .u64 0)))), .none⟩,
   ⟨(.some 117), (.mov (.t 116)), .none⟩,
   ⟨(.some 118), (.faddr 2 (.t 4)), (.some (117, .false))⟩,
   ⟨(.some 119), (.load .false 1 (.t 118) .false), (.some (117, .false))⟩,
   ⟨(.some 120), (.bin .neq (.t 119) (.c (.d (.str (bs []))))), (.some (117, .false))⟩,
   ⟨(.some 121), (.pick (.t 117) (.c (.d (.bool .true))) (.t 120)), .none⟩])
 c45_23)
 c45_25)
abbrev c45_3 : PCode :=
 (.keep [3, 4, 5] (.seq (.seq (.region [⟨(.some 11), (.faddr 0 (.t 3)), .none⟩,
   ⟨(.some 12), (.load .false 1 (.t 11) .false), .none⟩])
 c45_4)
 c45_22))
abbrev c45_0 : PCode :=
 (.keep [3, 4, 5] (.seq (.seq (.region [⟨(.some 9), (.load .false 1 (.t 5) .false), .none⟩,
   ⟨(.some 10), (.bin .lss (.t 9) (.c (.d (.int .i64 1)))), .none⟩])
 c45_1)
 c45_3))
def c45 : PFun := ⟨
 (.seq (.region [⟨(.some 3), (.box 4 (.t 0)), .none⟩,
   ⟨(.some 4), (.box 4 (.t 1)), .none⟩,
   ⟨(.some 5), (.box 1 (.t 2)), .none⟩,
   ⟨(.some 6), (.mov (.c (.d (.bool .false)))), .none⟩])
 c45_0),
 3, 215, [(.tmp 6)]⟩

/-- (prompter/value.Value).plain -/
abbrev c48_0 : PCode :=
 (.seq (.region [⟨(.some 3), (.faddr 1 (.t 1)), .none⟩,
   ⟨(.some 4), (.load .false 1 (.t 3) .false), .none⟩,
   ⟨(.some 5), (.call0 47 [(.t 4)]), .none⟩,
   ⟨(.some 6), (.bin .eql (.t 5) (.c (.d (.int .u64 0)))), .none⟩,
   ⟨(.some 7), (.mov (.t 6)), .none⟩,
   ⟨(.some 8), (.faddr 2 (.t 1)), (.some (7, .true))⟩,
   ⟨(.some 9), (.load .false 1 (.t 8) .false), (.some (7, .true))⟩,
   ⟨(.some 10), (.bin .eql (.t 9) (.c (.d (.str (bs []))))), (.some (7, .true))⟩,
   ⟨(.some 11), (.pick (.t 7) (.t 10) (.c (.d (.bool .false)))), .none⟩,
   ⟨(.some 12), (.mov (.t 11)), .none⟩,
   ⟨(.some 13), (.faddr 3 (.t 1)), (.some (12, .true))⟩,
   ⟨(.some 14), (.load .false 1 (.t 13) .false), (.some (12, .true))⟩,
   ⟨(.some 15), (.len (.t 14)), (.some (12, .true))⟩,
   ⟨(.some 16), (.bin .eql (.t 15) (.c (.d (.int .i64 0)))), (.some (12, .true))⟩,
   ⟨(.some 17), (.pick (.t 12) (.t 16) (.c (.d (.bool .false)))), .none⟩,
   ⟨(.some 2), (.mov (.t 17)), .none⟩])
 .ret)
def c48 : PFun := ⟨
 (.seq (.region [⟨(.some 1), (.box 4 (.t 0)), .none⟩,
   ⟨(.some 2), (.mov (.c (.d (.bool .false)))), .none⟩])
 c48_0),
 1, 18, [(.tmp 2)]⟩

/-- slices.ContainsFunc[[]prompter/value.Value,prompter/value.Value] -/
abbrev c49_0 : PCode :=
 (.seq (.region [⟨(.some 5), (.mov (.t 0)), .none⟩,
   ⟨(.some 6), (.mov (.t 1)), .none⟩,
   ⟨(.some 7), (.call0 54 [(.t 5), (.t 6)]), .none⟩,
   ⟨(.some 8), (.bin .geq (.t 7) (.c (.d (.int .i64 0)))), .none⟩,
   ⟨(.some 4), (.mov (.t 8)), .none⟩])
 .ret)
def c49 : PFun := ⟨
 (.seq (.region [⟨(.some 4), (.mov (.c (.d (.bool .false)))), .none⟩])
 c49_0),
 2, 9, [(.tmp 4)]⟩

/-- prompter/value.check$1 -/
abbrev c50_0 : PCode :=
 (.seq (.region [⟨(.some 5), (.faddr 3 (.t 1)), .none⟩,
   ⟨(.some 6), (.load .false 1 (.t 5) .false), .none⟩,
   ⟨(.some 7), (.iaddr 4 (.t 6) (.c (.d (.int .i64 0)))), .none⟩,
   ⟨(.some 8), (.load .true 4 (.t 7) .false), .none⟩,
   ⟨(.some 9), (.load .true 4 (.t 3) .false), .none⟩,
   ⟨(.some 10), (.load .false 1 (.t 2) .false), .none⟩,
   ⟨(.some 11), (.bin .sub (.t 10) (.c (.d (.int .i64 1)))), .none⟩,
   ⟨(.some 12), (.call0 45 [(.t 8), (.t 9), (.t 11)]), .none⟩,
   ⟨(.some 13), (.not (.t 12)), .none⟩,
   ⟨(.some 4), (.mov (.t 13)), .none⟩])
 .ret)
def c50 : PFun := ⟨
 (.seq (.region [⟨(.some 3), (.box 4 (.t 0)), .none⟩,
   ⟨(.some 4), (.mov (.c (.d (.bool .false)))), .none⟩])
 c50_0),
 3, 14, [(.tmp 4)]⟩

/-- slices.IndexFunc[[]prompter/value.Value,prompter/value.Value] -/
abbrev c54_5 : PCode :=
 (.seq (.region [⟨(.some 17), (.mov (.t 5)), .none⟩,
   ⟨(.some 4), (.mov (.t 17)), .none⟩])
 .ret)
abbrev c54_4 : PCode :=
 (.cond (.t 16)
  c54_5
  .skip)
abbrev c54_3 : PCode :=
 (.seq (.region [⟨(.some 11), (.mov (.t 1)), .none⟩,
   ⟨(.some 12), (.mov (.t 0)), .none⟩,
   ⟨(.some 13), (.mov (.t 5)), .none⟩,
   ⟨(.some 14), (.iaddr 4 (.t 12) (.t 13)), .none⟩,
   ⟨(.some 15), (.load .true 4 (.t 14) .false), .none⟩,
   ⟨(.some 16), (.callv0 (.t 11) [(.t 15)]), .none⟩])
 c54_4)
abbrev c54_2 : PCode :=
 (.block 1 (.seq (.region [⟨(.some 10), (.mov (.t 8)), .none⟩,
   ⟨(.some 5), (.mov (.t 10)), .none⟩])
 c54_3))
abbrev c54_1 : PCode :=
 (.keep [0, 1, 7, 8] (.block 0 (.loop (.some [8, 0, 1, 7]) (.seq (.region [⟨(.some 9), (.bin .lss (.t 8) (.t 7)), .none⟩])
 (.seq (.cond (.t 9)
  .skip
  (.exit 0))
 (.seq c54_2
 (.region [⟨(.some 18), (.bin .add (.t 8) (.c (.d (.int .i64 1)))), .none⟩,
   ⟨(.some 8), (.mov (.t 18)), .none⟩])))))))
abbrev c54_6 : PCode :=
 (.seq (.region [⟨(.some 4), (.mov (.c (.d (.int .i64 (-1))))), .none⟩])
 .ret)
abbrev c54_0 : PCode :=
 (.seq (.seq (.region [⟨(.some 6), (.mov (.t 0)), .none⟩,
   ⟨(.some 7), (.len (.t 6)), .none⟩,
   ⟨(.some 8), (.mov (.c (.d (.int .i64 0)))), .none⟩])
 c54_1)
 c54_6)
def c54 : PFun := ⟨
 (.seq (.region [⟨(.some 4), (.mov (.c (.d (.int .i64 0)))), .none⟩])
 c54_0),
 2, 19, [(.tmp 4)]⟩

/-- prompter/value.Check -/
abbrev c27_2 : PCode :=
 (.seq (.region [⟨(.some 4), (.mov (.c (.d (.int .i64 17)))), .none⟩])
 .ret)
abbrev c27_1 : PCode :=
 (.cond (.t 8)
  c27_2
  .skip)
abbrev c27_3 : PCode :=
 (.keep [] (.seq (.region [⟨(.some 4), (.mov (.c (.d (.int .i64 0)))), .none⟩])
 .ret))
abbrev c27_0 : PCode :=
 (.keep [2, 3] (.seq (.seq (.region [⟨(.some 5), (.load .true 4 (.t 2) .false), .none⟩,
   ⟨(.some 6), (.load .true 4 (.t 3) .false), .none⟩,
   ⟨(.some 7), (.call0 45 [(.t 5), (.t 6), (.c (.d (.int .i64 20)))]), .none⟩,
   ⟨(.some 8), (.not (.t 7)), .none⟩])
 c27_1)
 c27_3))
def c27 : PFun := ⟨
 (.seq (.region [⟨(.some 2), (.box 4 (.t 0)), .none⟩,
   ⟨(.some 3), (.box 4 (.t 1)), .none⟩,
   ⟨(.some 4), (.mov (.c (.d (.int .i64 0)))), .none⟩])
 c27_0),
 2, 9, [(.tmp 4)]⟩

theorem e45 : entered Try.prog 45 = true := by kernel_rfl
theorem k45 : compFun Try.prog (fun _ => 0) 45 = some c45.er := by kernel_rfl
theorem e48 : entered Try.prog 48 = true := by kernel_rfl
theorem k48 : compFun Try.prog (fun _ => 0) 48 = some c48.er := by kernel_rfl
theorem e49 : entered Try.prog 49 = true := by kernel_rfl
theorem k49 : compFun Try.prog (fun _ => 0) 49 = some c49.er := by kernel_rfl
theorem e50 : entered Try.prog 50 = true := by kernel_rfl
theorem k50 : compFun Try.prog (fun _ => 0) 50 = some c50.er := by kernel_rfl
theorem e54 : entered Try.prog 54 = true := by kernel_rfl
theorem k54 : compFun Try.prog (fun _ => 0) 54 = some c54.er := by kernel_rfl
theorem e27 : entered Try.prog 27 = true := by kernel_rfl
theorem k27 : compFun Try.prog (fun _ => 0) 27 = some c27.er := by kernel_rfl


theorem C48 (v : VT) : Pure (PCalls Try.prog GG) 48 [v.av] (b2 v.plain) := by
  rw [VT.av_eq]
  intro st; refine pcalls_of k48 e48 (of_decide_eq_true rfl) ?_; dsimp only [c48]; refine pstartL ?_; intro t hL; generalize hQ : pfin _ _ = Q
  (refine gor hL ?_; (repeat (clear hL; intro t hL; refine gor hL ?_))); refine po_boxA hL ?_; clear hL; intro p1 t hL
  refine gor hL ?_; (repeat (clear hL; intro t hL; refine gor hL ?_))
  refine po_c0 (C47 v.f) ?_
  refine gor hL ?_; (repeat (clear hL; intro t hL; refine gor hL ?_))
  rw [← hQ]
  exact pfin_pure rfl hL.le

/-- The first that is so, or -1. -/
def idxOf (p : VT → Bool) (l : List VT) : Int := match l.findIdx? p with | some i => (i : Int) | none => -1
theorem idxOf_any (p : VT → Bool) (l : List VT) : decide (idxOf p l ≥ 0) = l.any p := by
  rw [← List.findIdx?_isSome, idxOf]
  cases l.findIdx? p with
  | none => rfl
  | some i => simp
theorem idxOf_none {p : VT → Bool} {l : List VT} (h : l.any p = false) : idxOf p l = -1 := by
  rw [← List.findIdx?_isSome] at h
  rw [idxOf]
  cases e : l.findIdx? p with
  | none => rfl
  | some i => rw [e] at h; cases h
theorem idxOf_at {p : VT → Bool} {l : List VT} {i : Nat} {x : VT} (hx : l[i]? = some x) (h : p x = true) (hI : (l.take i).any p = false) : idxOf p l = i := by
  obtain ⟨hi, rfl⟩ := List.getElem?_eq_some_iff.1 hx
  have : l.findIdx? p = some i := List.findIdx?_eq_some_iff_getElem.2 ⟨hi, h, fun j hj => by
    have hj' : j < (l.take i).length := by rw [List.length_take]; omega
    have := List.any_eq_false.1 hI (l.take i)[j] (List.getElem_mem hj')
    simpa using this⟩
  rw [idxOf, this]
theorem C54 (g : FuncId) (caps : List Dat) (p : VT → Bool) (l : List VT) (hl : l.length < 2 ^ 60) (st : St) (hg : ∀ t, st.le t → ∀ x ∈ l, PureAt (PCalls Try.prog GG) t g (x.av :: caps.map .d) (b2 (p x))) :
    PureAt (PCalls Try.prog GG) st 54 [.d (.sl (l.map VT.row)), .d (.fn g [] caps)] (.d (.int .i64 (idxOf p l))) := by
  refine pcalls_of k54 e54 (of_decide_eq_true rfl) ?_; dsimp only [c54]
  refine pstartL ?_; intro t hL; generalize hQ : pfin _ _ = Q
  refine gor hL ?_; (repeat (clear hL; intro t hL; refine gor hL ?_))
  (apply prangeK hL (l.length) (by omega) (fun i => (l.take i).any p = false)); (· exact trimA); (· exact fun _ => rfl)
  · rfl
  · intro t hL hI
    rw [List.take_length] at hI
    refine gor hL ?_; (repeat (clear hL; intro t hL; refine gor hL ?_))
    rw [← hQ]
    rw [idxOf_none hI]
    exact pfin_pure rfl hL.le
  · intro i hi t hL hI
    obtain ⟨x, hx, hxm⟩ := elem_at hi
    refine pblock ?_
    refine gor hL ?_; (repeat (clear hL; intro t hL; refine gor hL ?_))
    have hc := hg t hL.le x hxm
    rw [VT.av_eq] at hc
    refine po_callv rfl rfl hc (fun _ _ h => False.elim h) ?_
    refine gor hL ?_; (repeat (clear hL; intro t hL; refine gor hL ?_))
    refine pcond_b rfl (fun h => ?_) (fun h => ?_)
    · refine gor hL ?_; (repeat (clear hL; intro t hL; refine gor hL ?_))
      rw [← hQ]
      rw [idxOf_at hx h hI]
      exact pfin_pure rfl hL.le
    · refine gor hL ?_; (repeat (clear hL; intro t hL; refine gor hL ?_))
      refine ⟨hL.pk, ?_, tr2⟩
      rw [take_snoc hx, List.any_append, hI]
      simp [h]
theorem C49 (g : FuncId) (caps : List Dat) (p : VT → Bool) (l : List VT) (hl : l.length < 2 ^ 60) (st : St) (hg : ∀ t, st.le t → ∀ x ∈ l, PureAt (PCalls Try.prog GG) t g (x.av :: caps.map .d) (b2 (p x))) :
    PureAt (PCalls Try.prog GG) st 49 [.d (.sl (l.map VT.row)), .d (.fn g [] caps)] (b2 (l.any p)) := by
  refine pcalls_of k49 e49 (of_decide_eq_true rfl) ?_; dsimp only [c49]
  refine pstartL ?_; intro t hL; generalize hQ : pfin _ _ = Q
  refine gor hL ?_; (repeat (clear hL; intro t hL; refine gor hL ?_))
  refine po_callA rfl (C54 g caps p l hl t (fun t' h => hg t' (hL.le.trans h))) (fun _ _ h => False.elim h) ?_
  refine gor hL ?_; (repeat (clear hL; intro t hL; refine gor hL ?_))
  rw [← hQ]
  rw [← idxOf_any]
  exact pfin_pure rfl hL.le

theorem C50 (d : Nat) (T : KT) (x : VT) (y : KT) (hy : T.of[0]? = some y) (hd : d + 1 ≤ 1000) (p3 p5 : Nat) (st : St) (h3 : st.box p3 = some [.d (.int .u8 T.kind), .d (.int .i64 T.most), .d (.sl (T.names.map fun s => [.str s])), .d (.sl (T.of.map KT.row))]) (h5 : st.box p5 = some [i64 (d + 1 : Nat)])
    (ih : Pure (PCalls Try.prog GG) 45 [y.av, x.av, i64 d] (b2 (VT.is d y x))) :
    PureAt (PCalls Try.prog GG) st 50 [x.av, ptrAt p3, ptrAt p5] (b2 (!VT.is d y x)) := by
  rw [VT.av_eq, KT.av_eq] at *
  refine pcalls_of k50 e50 (of_decide_eq_true rfl) ?_; dsimp only [c50]
  refine pstartL ?_; intro t hL; generalize hQ : pfin _ _ = Q
  (refine gor hL ?_; (repeat (clear hL; intro t hL; refine gor hL ?_))); refine po_boxA hL ?_; clear hL; intro p9 t hL
  refine gor hL ?_; (repeat (clear hL; intro t hL; refine gor hL ?_))
  refine gor hL ?_; (repeat (clear hL; intro t hL; refine gor hL ?_))
  refine gnm ?_; rw [IntWalk.i64_in (((d + 1 : Nat) : Int) - 1) (by omega), show ((d + 1 : Nat) : Int) - 1 = d by omega]
  refine po_c0 (ih) ?_
  refine gor hL ?_; (repeat (clear hL; intro t hL; refine gor hL ?_))
  rw [← hQ]
  exact pfin_pure rfl hL.le

theorem C45 : ∀ (d : Nat) (T : KT) (v : VT), d ≤ 1000 → T.fit → v.fit → Pure (PCalls Try.prog GG) 45 [T.av, v.av, i64 d] (b2 (VT.is d T v)) := by
  intro d
  induction d with
  | zero =>
    intro T v _ _ _
    rw [KT.av_eq, VT.av_eq]
    intro st; refine pcalls_of k45 e45 (of_decide_eq_true rfl) ?_; dsimp only [c45]; refine pstartL ?_; intro t hL; generalize hQ : pfin _ _ = Q
    (refine gor hL ?_; (repeat (clear hL; intro t hL; refine gor hL ?_))); refine po_boxA hL ?_; clear hL; intro p3 t hL
    (refine gor hL ?_; (repeat (clear hL; intro t hL; refine gor hL ?_))); refine po_boxA hL ?_; clear hL; intro p4 t hL
    (refine gor hL ?_; (repeat (clear hL; intro t hL; refine gor hL ?_))); refine po_boxA hL ?_; clear hL; intro p5 t hL
    refine gor hL ?_; (repeat (clear hL; intro t hL; refine gor hL ?_))
    rw [← hQ]
    exact pfin_pure rfl hL.le
  | succ d ih =>
  intro T v hd hT hv
  have hP := C48 v
  have hl := hv.len
  rw [KT.av_eq, VT.av_eq] at *
  intro st; refine pcalls_of k45 e45 (of_decide_eq_true rfl) ?_; dsimp only [c45]; refine pstartL ?_; intro t hL; generalize hQ : pfin _ _ = Q
  (refine gor hL ?_; (repeat (clear hL; intro t hL; refine gor hL ?_))); refine po_boxA hL ?_; clear hL; intro p3 t hL
  (refine gor hL ?_; (repeat (clear hL; intro t hL; refine gor hL ?_))); refine po_boxA hL ?_; clear hL; intro p4 t hL
  (refine gor hL ?_; (repeat (clear hL; intro t hL; refine gor hL ?_))); refine po_boxA hL ?_; clear hL; intro p5 t hL
  refine gor hL ?_; (repeat (clear hL; intro t hL; refine gor hL ?_))
  have hd1 : decide (((d + 1 : Nat) : Int) < 1) = false := decide_eq_false (by omega)
  refine gnm ?_; rw [hd1]
  refine gor hL ?_; (repeat (clear hL; intro t hL; refine gor hL ?_))
  rw [VT.is] at hQ
  refine pcond_b rfl (fun h0 => ?_) (fun h0 => ?_)
  · have h0' : T.kind = 0 := by simpa using h0
    rw [if_pos h0'] at hQ
    refine gor hL ?_; (repeat (clear hL; intro t hL; refine gor hL ?_))
    refine po_c0 (hP) ?_
    refine gor hL ?_; (repeat (clear hL; intro t hL; refine gor hL ?_))
    rw [← hQ]
    exact pfin_pure rfl hL.le
  have n0 : ¬ T.kind = 0 := by simpa using h0
  refine gor hL ?_; (repeat (clear hL; intro t hL; refine gor hL ?_))
  refine pcond_b rfl (fun h1 => ?_) (fun h1 => ?_)
  · have h1' : T.kind = 1 := by simpa using h1
    rw [if_neg n0, if_pos h1'] at hQ
    refine gor hL ?_; (repeat (clear hL; intro t hL; refine gor hL ?_))
    refine po_c0 (hP) ?_
    refine gor hL ?_; (repeat (clear hL; intro t hL; refine gor hL ?_))
    rw [← hQ]
    exact pfin_pure rfl hL.le
  have n1 : ¬ T.kind = 1 := by simpa using h1
  refine gor hL ?_; (repeat (clear hL; intro t hL; refine gor hL ?_))
  refine pcond_b rfl (fun h2 => ?_) (fun h2 => ?_)
  · have h2' : T.kind = 2 := by simpa using h2
    rw [if_neg n0, if_neg n1, if_pos h2'] at hQ
    refine gor hL ?_; (repeat (clear hL; intro t hL; refine gor hL ?_))
    refine po_c0 (hP) ?_
    refine gor hL ?_; (repeat (clear hL; intro t hL; refine gor hL ?_))
    rw [← hQ]
    exact pfin_pure rfl hL.le
  have n2 : ¬ T.kind = 2 := by simpa using h2
  refine gor hL ?_; (repeat (clear hL; intro t hL; refine gor hL ?_))
  refine pcond_b rfl (fun h3 => ?_) (fun h3 => ?_)
  · have h3' : T.kind = 3 := by simpa using h3
    rw [if_neg n0, if_neg n1, if_neg n2, if_pos h3'] at hQ
    refine gor hL ?_; (repeat (clear hL; intro t hL; refine gor hL ?_))
    rw [← hQ]
    exact pfin_pure rfl hL.le
  have n3 : ¬ T.kind = 3 := by simpa using h3
  refine gor hL ?_; (repeat (clear hL; intro t hL; refine gor hL ?_))
  refine pcond_b rfl (fun h4 => ?_) (fun h4 => ?_)
  · have h4' : T.kind = 4 := by simpa using h4
    rw [if_neg n0, if_neg n1, if_neg n2, if_neg n3, if_pos h4'] at hQ
    refine gor hL ?_; (repeat (clear hL; intro t hL; refine gor hL ?_))
    ((with_reducible apply po_g); (· exact gwt); (· (intro hw; refine does_call0 ?_ (C47 v.f); exact gargs hw)))
    refine gor hL ?_; (repeat (clear hL; intro t hL; refine gor hL ?_))
    rw [← hQ]
    exact pfin_pure rfl hL.le
  have n4 : ¬ T.kind = 4 := by simpa using h4
  refine gor hL ?_; (repeat (clear hL; intro t hL; refine gor hL ?_))
  refine pcond_b rfl (fun h7 => ?_) (fun h7 => ?_)
  · have h7' : T.kind = 7 := by simpa using h7
    rw [if_neg n0, if_neg n1, if_neg n2, if_neg n3, if_neg n4, if_pos h7'] at hQ
    refine gor hL ?_; (repeat (clear hL; intro t hL; refine gor hL ?_))
    refine po_c0 (hP) ?_
    refine gor hL ?_; (repeat (clear hL; intro t hL; refine gor hL ?_))
    rw [← hQ]
    exact pfin_pure rfl hL.le
  have n7 : ¬ T.kind = 7 := by simpa using h7
  refine gor hL ?_; (repeat (clear hL; intro t hL; refine gor hL ?_))
  refine po_c0 (C47 v.f) ?_
  refine gor hL ?_; (repeat (clear hL; intro t hL; refine gor hL ?_))
  refine pcond_b rfl (fun hb => ?_) (fun hb => ?_)
  · rw [if_neg n0, if_neg n1, if_neg n2, if_neg n3, if_neg n4, if_neg n7, if_pos hb] at hQ
    refine gor hL ?_; (repeat (clear hL; intro t hL; refine gor hL ?_))
    rw [← hQ]
    exact pfin_pure rfl hL.le
  rw [if_neg n0, if_neg n1, if_neg n2, if_neg n3, if_neg n4, if_neg n7, if_neg (by rw [hb]; decide)] at hQ
  refine gor hL ?_; (repeat (clear hL; intro t hL; refine gor hL ?_))
  refine pcond_b rfl (fun h5 => ?_) (fun h5 => ?_)
  · have h5' : T.kind = 5 := by simpa using h5
    rw [if_pos h5'] at hQ
    refine gor hL ?_; (repeat (clear hL; intro t hL; refine gor hL ?_))
    refine pcond_b rfl (fun hc => ?_) (fun hc => ?_)
    · have hc' : v.n ≠ 0 ∨ (v.of.length : Int) > T.most ∨ T.of.length ≠ 1 := by
        simp only [Bool.or_eq_true, bne_iff_ne, decide_eq_true_eq] at hc; omega
      rw [if_pos hc'] at hQ
      refine gor hL ?_; (repeat (clear hL; intro t hL; refine gor hL ?_))
      rw [← hQ]
      exact pfin_pure rfl hL.le
    have hc' : ¬ (v.n ≠ 0 ∨ (v.of.length : Int) > T.most ∨ T.of.length ≠ 1) := by
      simp only [Bool.or_eq_false_iff, bne_eq_false_iff_eq, decide_eq_false_iff_not] at hc; omega
    rw [if_neg hc'] at hQ
    have hlen : 0 < T.of.length := by omega
    obtain ⟨y, hy, hym⟩ := elem_at hlen
    have hg : T.of.getD 0 (.mk 0 0 [] []) = y := by rw [List.getD_eq_getElem?_getD, hy]; rfl
    rw [hg] at hQ
    have hx3 := hL.bx (b := p3) (by repeat (first | exact Rem.head | apply Rem.tail))
    have hx5 := hL.bx (b := p5) (by repeat (first | exact Rem.head | apply Rem.tail))
    refine gor hL ?_; (repeat (clear hL; intro t hL; refine gor hL ?_))
    refine po_callA rfl (C49 50 [.ptr p3 0, .ptr p5 0] (fun x => !VT.is d y x) v.of (by omega) t (fun t' hle x hx => C50 d T x y hy hd p3 p5 t' (hle.box _ _ hx3) (hle.box _ _ hx5) (ih y x (by omega) (((KT.fit_eq T).1 hT).2.2 _ hym) (hv.part hx)))) (fun _ _ h => False.elim h) ?_
    refine gor hL ?_; (repeat (clear hL; intro t hL; refine gor hL ?_))
    rw [← hQ]
    rw [List.all_eq_not_any_not]
    exact pfin_pure rfl hL.le
  have n5 : ¬ T.kind = 5 := by simpa using h5
  rw [if_neg n5] at hQ
  refine gor hL ?_; (repeat (clear hL; intro t hL; refine gor hL ?_))
  refine pcond_b rfl (fun h6 => ?_) (fun h6 => ?_)
  · have h6' : T.kind = 6 := by simpa using h6
    rw [if_pos h6'] at hQ
    refine gor hL ?_; (repeat (clear hL; intro t hL; refine gor hL ?_))
    refine pcond_b rfl (fun hc => ?_) (fun hc => ?_)
    · have hc' : v.n ≠ 0 ∨ v.of.length ≠ T.of.length := by
        simp only [Bool.or_eq_true, bne_iff_ne] at hc; omega
      rw [if_pos hc'] at hQ
      refine gor hL ?_; (repeat (clear hL; intro t hL; refine gor hL ?_))
      rw [← hQ]
      exact pfin_pure rfl hL.le
    have hc' : ¬ (v.n ≠ 0 ∨ v.of.length ≠ T.of.length) := by
      simp only [Bool.or_eq_false_iff, bne_eq_false_iff_eq] at hc; omega
    rw [if_neg hc'] at hQ
    refine gor hL ?_; (repeat (clear hL; intro t hL; refine gor hL ?_))
    (apply prangeK hL (v.of.length) (by omega) (fun i => allZip (VT.is d) T.of v.of = allZip (VT.is d) (T.of.drop i) (v.of.drop i))); (· exact trimA); (· exact fun _ => rfl)
    · rfl
    · intro t hL hI
      rw [List.drop_length, allZip_nil] at hI
      rw [hI] at hQ
      refine gor hL ?_; (repeat (clear hL; intro t hL; refine gor hL ?_))
      rw [← hQ]
      exact pfin_pure rfl hL.le
    · intro i hi t hL hI
      obtain ⟨x, hx, hxm⟩ := elem_at hi
      obtain ⟨y, hy, hym⟩ := elem_at (l := T.of) (k := i) (by omega)
      rw [allZip_drop hy hx] at hI
      have hc := ih y x (by omega) (((KT.fit_eq T).1 hT).2.2 _ hym) (hv.part hxm)
      rw [KT.av_eq, VT.av_eq] at hc
      refine pblock ?_
      (refine gor hL ?_; (repeat (clear hL; intro t hL; refine gor hL ?_))); (with_reducible refine po_allocL hL rfl ?_); clear hL; intro p8 t hL
      refine gor hL ?_; (repeat (clear hL; intro t hL; refine gor hL ?_))
      refine gnm ?_; rw [IntWalk.i64_in (((d + 1 : Nat) : Int) - 1) (by omega), show ((d + 1 : Nat) : Int) - 1 = d by omega]
      refine po_c0 (hc) ?_
      refine gor hL ?_; (repeat (clear hL; intro t hL; refine gor hL ?_))
      refine pcond_b rfl (fun h => ?_) (fun h => ?_)
      · have h' : VT.is d y x = false := by simpa using h
        rw [hI, h', Bool.false_and] at hQ
        refine gor hL ?_; (repeat (clear hL; intro t hL; refine gor hL ?_))
        rw [← hQ]
        exact pfin_pure rfl hL.le
      · have h' : VT.is d y x = true := by simpa using h
        refine gor hL ?_; (repeat (clear hL; intro t hL; refine gor hL ?_))
        refine ⟨hL.pk, ?_, tr2⟩
        rw [hI, h', Bool.true_and]
  have n6 : ¬ T.kind = 6 := by simpa using h6
  rw [if_neg n6] at hQ
  refine gor hL ?_; (repeat (clear hL; intro t hL; refine gor hL ?_))
  refine pcond_b rfl (fun h8 => ?_) (fun h8 => ?_)
  · have h8' : T.kind = 8 := by simpa using h8
    rw [if_pos h8'] at hQ
    refine gor hL ?_; (repeat (clear hL; intro t hL; refine gor hL ?_))
    by_cases hc : 0 ≤ v.n ∧ v.n < T.of.length ∧ v.of.length = 1
    · rw [if_pos hc] at hQ
      obtain ⟨k, hk⟩ : ∃ k : Nat, v.n = k := ⟨v.n.toNat, by omega⟩
      have hkl : k < T.of.length := by omega
      obtain ⟨y, hy, hym⟩ := elem_at hkl
      obtain ⟨x, hx, hxm⟩ := elem_at (l := v.of) (k := 0) (by omega)
      have hg : T.of.getD v.n.toNat (.mk 0 0 [] []) = y := by rw [hk, Int.toNat_natCast, List.getD_eq_getElem?_getD, hy]; rfl
      have hg' : v.of.getD 0 VT.zero = x := by rw [List.getD_eq_getElem?_getD, hx]; rfl
      rw [hg, hg'] at hQ
      have hcc := ih y x (by omega) (((KT.fit_eq T).1 hT).2.2 _ hym) (hv.part hxm)
      rw [KT.av_eq, VT.av_eq] at hcc
      have e1 : decide ((k : Int) ≥ 0) = true := decide_eq_true (by omega)
      have e2 : decide ((k : Int) < (T.of.length : Int)) = true := decide_eq_true (by omega)
      have e3 : ((v.of.length : Int) == 1) = true := by rw [hc.2.2]; rfl
      refine gnm ?_; rw [hk, e1, e2, e3]
      refine gor hL ?_; (repeat (clear hL; intro t hL; refine gor hL ?_))
      refine gnm ?_; rw [IntWalk.i64_in (((d + 1 : Nat) : Int) - 1) (by omega), show ((d + 1 : Nat) : Int) - 1 = d by omega]
      refine po_c0 (hcc) ?_
      refine gor hL ?_; (repeat (clear hL; intro t hL; refine gor hL ?_))
      rw [← hQ]
      exact pfin_pure rfl hL.le
    · rw [if_neg hc] at hQ
      have e0 : (decide (v.n ≥ 0) && decide (v.n < (T.of.length : Int)) && ((v.of.length : Int) == 1)) = false := by
        rw [Bool.eq_false_iff]
        intro e
        simp only [Bool.and_eq_true, decide_eq_true_eq, beq_iff_eq] at e
        omega
      refine gnm ?_; rw [e0]
      refine gor hL ?_; (repeat (clear hL; intro t hL; refine gor hL ?_))
      rw [← hQ]
      exact pfin_pure rfl hL.le
  have n8 : ¬ T.kind = 8 := by simpa using h8
  rw [if_neg n8] at hQ
  refine gor hL ?_; (repeat (clear hL; intro t hL; refine gor hL ?_))
  rw [← hQ]
  exact pfin_pure rfl hL.le
/-- The error's number, of a value that isn't of a type. -/
def VT.checkE (T : KT) (v : VT) : Int := if VT.is 20 T v = true then 0 else 17
theorem C27 (T : KT) (v : VT) (hT : T.fit) (hv : v.fit) : Pure (PCalls Try.prog GG) 27 [T.av, v.av] (.d (.int .i64 (VT.checkE T v))) := by
  have hc := C45 20 T v (by decide) hT hv
  rw [KT.av_eq, VT.av_eq] at *
  intro st; refine pcalls_of k27 e27 (of_decide_eq_true rfl) ?_; dsimp only [c27]; refine pstartL ?_; intro t hL; generalize hQ : pfin _ _ = Q
  (refine gor hL ?_; (repeat (clear hL; intro t hL; refine gor hL ?_))); refine po_boxA hL ?_; clear hL; intro p2 t hL
  (refine gor hL ?_; (repeat (clear hL; intro t hL; refine gor hL ?_))); refine po_boxA hL ?_; clear hL; intro p3 t hL
  refine gor hL ?_; (repeat (clear hL; intro t hL; refine gor hL ?_))
  refine po_c0 (hc) ?_
  refine gor hL ?_; (repeat (clear hL; intro t hL; refine gor hL ?_))
  refine pcond_b rfl (fun h => ?_) (fun h => ?_)
  · have h' : VT.is 20 T v = false := by simpa using h
    rw [VT.checkE, h'] at hQ
    refine gor hL ?_; (repeat (clear hL; intro t hL; refine gor hL ?_))
    rw [← hQ]
    exact pfin_pure rfl hL.le
  · have h' : VT.is 20 T v = true := by simpa using h
    rw [VT.checkE, h'] at hQ
    refine gor hL ?_; (repeat (clear hL; intro t hL; refine gor hL ?_))
    rw [← hQ]
    exact pfin_pure rfl hL.le
end Go.Pv
