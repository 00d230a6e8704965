/- Functions of the program, by value. No condition. -/
import Derived.Test.YtmcdhendjlijhaaV34
import Derived.Test.YtmcdhendjlijhaaV11
namespace Go.Pv
open Go.Proofs
set_option maxRecDepth 100000
set_option maxHeartbeats 8000000

/-- prompter/prompterref10.Run -/
abbrev c23_2 : PCode :=
 (.exit 0)
abbrev c23_1 : PCode :=
 (.cond (.t 23)
  .skip
  c23_2)
abbrev c23_8 : PCode :=
 (.region [⟨(.some 38), (.mov (.t 0)), .none⟩,
   ⟨(.some 39), (.faddr 3 (.t 9)), .none⟩,
   ⟨(.some 40), (.load .false 1 (.t 39) .false), .none⟩,
   ⟨(.some 41), (.nilchk (.t 38)), .none⟩,
   ⟨(.some 42), (.faddr 0 (.t 41)), .none⟩,
   ⟨(.some 43), (.iaddrA 16 1 (.t 42) (.t 40)), .none⟩,
   ⟨(.some 44), (.load .false 1 (.t 43) .false), .none⟩,
   ⟨(.some 11), (.mov (.t 44)), .none⟩])
abbrev c23_7 : PCode :=
 (.cond (.t 37)
  c23_8
  .skip)
abbrev c23_13 : PCode :=
 (.region [⟨(.some 51), (.mov (.t 0)), .none⟩,
   ⟨(.some 52), (.nilchk (.t 51)), .none⟩,
   ⟨(.some 53), (.faddr 17 (.t 52)), .none⟩,
   ⟨.none, (.store 1 (.t 53) (.c (.d (.bool .true)))), .none⟩])
abbrev c23_16 : PCode :=
 (.region [⟨(.some 56), (.mov (.t 0)), .none⟩,
   ⟨(.some 57), (.faddr 1 (.t 9)), .none⟩,
   ⟨(.some 58), (.load .false 1 (.t 57) .false), .none⟩,
   ⟨(.some 59), (.faddr 4 (.t 9)), .none⟩,
   ⟨(.some 60), (.load .false 1 (.t 59) .false), .none⟩,
   ⟨(.some 61), (.nilchk (.t 56)), .none⟩,
   ⟨(.some 62), (.faddr 0 (.t 61)), .none⟩,
   ⟨(.some 63), (.iaddrA 16 1 (.t 62) (.t 58)), .none⟩,
   ⟨.none, (.store 1 (.t 63) (.t 60)), .none⟩])
abbrev c23_19 : PCode :=
 (.region [⟨(.some 66), (.mov (.t 0)), .none⟩,
   ⟨(.some 67), (.faddr 1 (.t 9)), .none⟩,
   ⟨(.some 68), (.load .false 1 (.t 67) .false), .none⟩,
   ⟨(.some 69), (.mov (.t 10)), .none⟩,
   ⟨(.some 70), (.nilchk (.t 66)), .none⟩,
   ⟨(.some 71), (.faddr 0 (.t 70)), .none⟩,
   ⟨(.some 72), (.iaddrA 16 1 (.t 71) (.t 68)), .none⟩,
   ⟨.none, (.store 1 (.t 72) (.t 69)), .none⟩])
abbrev c23_22 : PCode :=
 (.region [⟨(.some 75), (.mov (.t 0)), .none⟩,
   ⟨(.some 76), (.faddr 1 (.t 9)), .none⟩,
   ⟨(.some 77), (.load .false 1 (.t 76) .false), .none⟩,
   ⟨(.some 78), (.mov (.t 10)), .none⟩,
   ⟨(.some 79), (.mov (.t 11)), .none⟩,
   ⟨(.some 80), (.bin .add (.t 78) (.t 79)), .none⟩,
   ⟨(.some 81), (.nilchk (.t 75)), .none⟩,
   ⟨(.some 82), (.faddr 0 (.t 81)), .none⟩,
   ⟨(.some 83), (.iaddrA 16 1 (.t 82) (.t 77)), .none⟩,
   ⟨.none, (.store 1 (.t 83) (.t 80)), .none⟩])
abbrev c23_25 : PCode :=
 (.region [⟨(.some 86), (.mov (.t 0)), .none⟩,
   ⟨(.some 87), (.faddr 1 (.t 9)), .none⟩,
   ⟨(.some 88), (.load .false 1 (.t 87) .false), .none⟩,
   ⟨(.some 89), (.mov (.t 10)), .none⟩,
   ⟨(.some 90), (.mov (.t 11)), .none⟩,
   ⟨(.some 91), (.bin .sub (.t 89) (.t 90)), .none⟩,
   ⟨(.some 92), (.nilchk (.t 86)), .none⟩,
   ⟨(.some 93), (.faddr 0 (.t 92)), .none⟩,
   ⟨(.some 94), (.iaddrA 16 1 (.t 93) (.t 88)), .none⟩,
   ⟨.none, (.store 1 (.t 94) (.t 91)), .none⟩])
abbrev c23_28 : PCode :=
 (.region [⟨(.some 97), (.mov (.t 0)), .none⟩,
   ⟨(.some 98), (.faddr 1 (.t 9)), .none⟩,
   ⟨(.some 99), (.load .false 1 (.t 98) .false), .none⟩,
   ⟨(.some 100), (.mov (.t 10)), .none⟩,
   ⟨(.some 101), (.mov (.t 11)), .none⟩,
   ⟨(.some 102), (.bin .mul (.t 100) (.t 101)), .none⟩,
   ⟨(.some 103), (.nilchk (.t 97)), .none⟩,
   ⟨(.some 104), (.faddr 0 (.t 103)), .none⟩,
   ⟨(.some 105), (.iaddrA 16 1 (.t 104) (.t 99)), .none⟩,
   ⟨.none, (.store 1 (.t 105) (.t 102)), .none⟩])
abbrev c23_34 : PCode :=
 (.region [⟨(.some 113), (.mov (.t 0)), .none⟩,
   ⟨(.some 114), (.nilchk (.t 113)), .none⟩,
   ⟨(.some 115), (.faddr 18 (.t 114)), .none⟩,
   ⟨.none, (.store 1 (.t 115) (.c (.d (.int .i64 14)))), .none⟩])
abbrev c23_33 : PCode :=
 (.seq (.region [⟨(.some 110), (.mov (.t 0)), .none⟩,
   ⟨(.some 111), (.nilchk (.t 110)), .none⟩,
   ⟨(.some 112), (.faddr 17 (.t 111)), .none⟩,
   ⟨.none, (.store 1 (.t 112) (.c (.d (.bool .true)))), .none⟩])
 c23_34)
abbrev c23_35 : PCode :=
 (.region [⟨(.some 116), (.mov (.t 0)), .none⟩,
   ⟨(.some 117), (.faddr 1 (.t 9)), .none⟩,
   ⟨(.some 118), (.load .false 1 (.t 117) .false), .none⟩,
   ⟨(.some 119), (.mov (.t 10)), .none⟩,
   ⟨(.some 120), (.mov (.t 11)), .none⟩,
   ⟨(.some 121), (.bin .quo (.t 119) (.t 120)), .none⟩,
   ⟨(.some 122), (.nilchk (.t 116)), .none⟩,
   ⟨(.some 123), (.faddr 0 (.t 122)), .none⟩,
   ⟨(.some 124), (.iaddrA 16 1 (.t 123) (.t 118)), .none⟩,
   ⟨.none, (.store 1 (.t 124) (.t 121)), .none⟩])
abbrev c23_32 : PCode :=
 (.cond (.t 109)
  c23_33
  c23_35)
abbrev c23_31 : PCode :=
 (.seq (.region [⟨(.some 108), (.mov (.t 11)), .none⟩,
   ⟨(.some 109), (.bin .eql (.t 108) (.c (.d (.int .i64 0)))), .none⟩])
 c23_32)
abbrev c23_41 : PCode :=
 (.region [⟨(.some 136), (.mov (.t 0)), .none⟩,
   ⟨(.some 137), (.faddr 1 (.t 9)), .none⟩,
   ⟨(.some 138), (.load .false 1 (.t 137) .false), .none⟩,
   ⟨(.some 139), (.nilchk (.t 136)), .none⟩,
   ⟨(.some 140), (.faddr 0 (.t 139)), .none⟩,
   ⟨(.some 141), (.iaddrA 16 1 (.t 140) (.t 138)), .none⟩,
   ⟨.none, (.store 1 (.t 141) (.c (.d (.int .i64 1)))), .none⟩])
abbrev c23_40 : PCode :=
 (.cond (.t 135)
  c23_41
  .skip)
abbrev c23_39 : PCode :=
 (.keep [0, 1, 3, 8, 9, 10, 11] (.seq (.region [⟨(.some 133), (.mov (.t 10)), .none⟩,
   ⟨(.some 134), (.mov (.t 11)), .none⟩,
   ⟨(.some 135), (.bin .lss (.t 133) (.t 134)), .none⟩])
 c23_40))
abbrev c23_38 : PCode :=
 (.seq (.region [⟨(.some 127), (.mov (.t 0)), .none⟩,
   ⟨(.some 128), (.faddr 1 (.t 9)), .none⟩,
   ⟨(.some 129), (.load .false 1 (.t 128) .false), .none⟩,
   ⟨(.some 130), (.nilchk (.t 127)), .none⟩,
   ⟨(.some 131), (.faddr 0 (.t 130)), .none⟩,
   ⟨(.some 132), (.iaddrA 16 1 (.t 131) (.t 129)), .none⟩,
   ⟨.none, (.store 1 (.t 132) (.c (.d (.int .i64 0)))), .none⟩])
 c23_39)
abbrev c23_46 : PCode :=
 (.region [⟨(.some 146), (.mov (.t 8)), .none⟩,
   ⟨(.some 147), (.faddr 4 (.t 9)), .none⟩,
   ⟨(.some 148), (.load .false 1 (.t 147) .false), .none⟩,
   ⟨(.some 149), (.bin .add (.t 146) (.t 148)), .none⟩,
   ⟨(.some 8), (.mov (.t 149)), .none⟩])
abbrev c23_45 : PCode :=
 (.cond (.t 145)
  c23_46
  .skip)
abbrev c23_44 : PCode :=
 (.seq (.region [⟨(.some 144), (.mov (.t 10)), .none⟩,
   ⟨(.some 145), (.bin .eql (.t 144) (.c (.d (.int .i64 0)))), .none⟩])
 c23_45)
abbrev c23_52 : PCode :=
 (.exit 3)
abbrev c23_51 : PCode :=
 (.cond (.t 155)
  .skip
  c23_52)
abbrev c23_54 : PCode :=
 (.region [⟨(.some 156), (.mov (.t 12)), .none⟩,
   ⟨(.some 157), (.bin .add (.t 156) (.c (.d (.int .i64 1)))), .none⟩,
   ⟨(.some 12), (.mov (.t 157)), .none⟩])
abbrev c23_53 : PCode :=
 (.seq (.block 4 (.region [⟨(.some 158), (.mov (.t 0)), .none⟩,
   ⟨(.some 159), (.mov (.t 1)), .none⟩,
   ⟨(.some 160), (.mov (.t 8)), .none⟩,
   ⟨(.some 161), (.mov (.t 8)), .none⟩,
   ⟨(.some 162), (.faddr 3 (.t 9)), .none⟩,
   ⟨(.some 163), (.load .false 1 (.t 162) .false), .none⟩,
   ⟨(.some 164), (.bin .add (.t 161) (.t 163)), .none⟩,
   ⟨(.some 165), (.call0 23 [(.t 158), (.t 159), (.t 160), (.t 164)]), .none⟩]))
 c23_54)
abbrev c23_50 : PCode :=
 (.block 3 (.loop (.some [12, 0, 1, 3, 8, 9]) (.seq (.seq (.region [⟨(.some 152), (.mov (.t 12)), .none⟩,
   ⟨(.some 153), (.faddr 4 (.t 9)), .none⟩,
   ⟨(.some 154), (.load .false 1 (.t 153) .false), .none⟩,
   ⟨(.some 155), (.bin .lss (.t 152) (.t 154)), .none⟩])
 c23_51)
 c23_53)))
abbrev c23_55 : PCode :=
 (.region [⟨(.some 166), (.mov (.t 8)), .none⟩,
   ⟨(.some 167), (.faddr 3 (.t 9)), .none⟩,
   ⟨(.some 168), (.load .false 1 (.t 167) .false), .none⟩,
   ⟨(.some 169), (.bin .add (.t 166) (.t 168)), .none⟩,
   ⟨(.some 8), (.mov (.t 169)), .none⟩])
abbrev c23_49 : PCode :=
 (.seq (.seq (.region [⟨(.some 12), (.mov (.c (.d (.int .i64 0)))), .none⟩])
 c23_50)
 c23_55)
abbrev c23_62 : PCode :=
 (.region [⟨(.some 180), (.mov (.t 0)), .none⟩,
   ⟨(.some 181), (.faddr 4 (.t 9)), .none⟩,
   ⟨(.some 182), (.load .false 1 (.t 181) .false), .none⟩,
   ⟨(.some 183), (.nilchk (.t 180)), .none⟩,
   ⟨(.some 184), (.faddr 19 (.t 183)), .none⟩,
   ⟨.none, (.store 1 (.t 184) (.t 182)), .none⟩])
abbrev c23_61 : PCode :=
 (.keep [0, 1, 3, 8, 9] (.seq (.region [⟨(.some 177), (.mov (.t 0)), .none⟩,
   ⟨(.some 178), (.nilchk (.t 177)), .none⟩,
   ⟨(.some 179), (.faddr 18 (.t 178)), .none⟩,
   ⟨.none, (.store 1 (.t 179) (.c (.d (.int .i64 16)))), .none⟩])
 c23_62))
abbrev c23_60 : PCode :=
 (.seq (.region [⟨(.some 174), (.mov (.t 0)), .none⟩,
   ⟨(.some 175), (.nilchk (.t 174)), .none⟩,
   ⟨(.some 176), (.faddr 17 (.t 175)), .none⟩,
   ⟨.none, (.store 1 (.t 176) (.c (.d (.bool .true)))), .none⟩])
 c23_61)
abbrev c23_59 : PCode :=
 (.cond (.t 173)
  c23_60
  .skip)
abbrev c23_58 : PCode :=
 (.seq (.region [⟨(.some 172), (.mov (.t 10)), .none⟩,
   ⟨(.some 173), (.bin .neq (.t 172) (.c (.d (.int .i64 0)))), .none⟩])
 c23_59)
abbrev c23_65 : PCode :=
 (.region [⟨(.some 187), (.mov (.t 0)), .none⟩,
   ⟨(.some 188), (.faddr 1 (.t 9)), .none⟩,
   ⟨(.some 189), (.load .false 1 (.t 188) .false), .none⟩,
   ⟨(.some 190), (.mov (.t 0)), .none⟩,
   ⟨(.some 191), (.nilchk (.t 190)), .none⟩,
   ⟨(.some 192), (.faddr 16 (.t 191)), .none⟩,
   ⟨(.some 193), (.load .false 1 (.t 192) .false), .none⟩,
   ⟨(.some 194), (.nilchk (.t 187)), .none⟩,
   ⟨(.some 195), (.faddr 0 (.t 194)), .none⟩,
   ⟨(.some 196), (.iaddrA 16 1 (.t 195) (.t 189)), .none⟩,
   ⟨.none, (.store 1 (.t 196) (.t 193)), .none⟩])
abbrev c23_64 : PCode :=
 (.cond (.t 185)
  c23_65
  .skip)
abbrev c23_63 : PCode :=
 (.seq (.region [⟨(.some 186), (.bin .eql (.t 48) (.c (.d (.int .i64 11)))), .none⟩,
   ⟨(.some 185), (.mov (.t 186)), .none⟩])
 c23_64)
abbrev c23_57 : PCode :=
 (.cond (.t 170)
  c23_58
  c23_63)
abbrev c23_56 : PCode :=
 (.seq (.region [⟨(.some 171), (.bin .eql (.t 48) (.c (.d (.int .i64 10)))), .none⟩,
   ⟨(.some 170), (.mov (.t 171)), .none⟩])
 c23_57)
abbrev c23_48 : PCode :=
 (.cond (.t 150)
  c23_49
  c23_56)
abbrev c23_47 : PCode :=
 (.seq (.region [⟨(.some 151), (.bin .eql (.t 48) (.c (.d (.int .i64 9)))), .none⟩,
   ⟨(.some 150), (.mov (.t 151)), .none⟩])
 c23_48)
abbrev c23_43 : PCode :=
 (.cond (.t 142)
  c23_44
  c23_47)
abbrev c23_42 : PCode :=
 (.seq (.region [⟨(.some 143), (.bin .eql (.t 48) (.c (.d (.int .i64 8)))), .none⟩,
   ⟨(.some 142), (.mov (.t 143)), .none⟩])
 c23_43)
abbrev c23_37 : PCode :=
 (.cond (.t 125)
  c23_38
  c23_42)
abbrev c23_36 : PCode :=
 (.seq (.region [⟨(.some 126), (.bin .eql (.t 48) (.c (.d (.int .i64 7)))), .none⟩,
   ⟨(.some 125), (.mov (.t 126)), .none⟩])
 c23_37)
abbrev c23_30 : PCode :=
 (.cond (.t 106)
  c23_31
  c23_36)
abbrev c23_29 : PCode :=
 (.seq (.region [⟨(.some 107), (.bin .eql (.t 48) (.c (.d (.int .i64 6)))), .none⟩,
   ⟨(.some 106), (.mov (.t 107)), .none⟩])
 c23_30)
abbrev c23_27 : PCode :=
 (.cond (.t 95)
  c23_28
  c23_29)
abbrev c23_26 : PCode :=
 (.seq (.region [⟨(.some 96), (.bin .eql (.t 48) (.c (.d (.int .i64 5)))), .none⟩,
   ⟨(.some 95), (.mov (.t 96)), .none⟩])
 c23_27)
abbrev c23_24 : PCode :=
 (.cond (.t 84)
  c23_25
  c23_26)
abbrev c23_23 : PCode :=
 (.seq (.region [⟨(.some 85), (.bin .eql (.t 48) (.c (.d (.int .i64 4)))), .none⟩,
   ⟨(.some 84), (.mov (.t 85)), .none⟩])
 c23_24)
abbrev c23_21 : PCode :=
 (.cond (.t 73)
  c23_22
  c23_23)
abbrev c23_20 : PCode :=
 (.seq (.region [⟨(.some 74), (.bin .eql (.t 48) (.c (.d (.int .i64 3)))), .none⟩,
   ⟨(.some 73), (.mov (.t 74)), .none⟩])
 c23_21)
abbrev c23_18 : PCode :=
 (.cond (.t 64)
  c23_19
  c23_20)
abbrev c23_17 : PCode :=
 (.seq (.region [⟨(.some 65), (.bin .eql (.t 48) (.c (.d (.int .i64 2)))), .none⟩,
   ⟨(.some 64), (.mov (.t 65)), .none⟩])
 c23_18)
abbrev c23_15 : PCode :=
 (.cond (.t 54)
  c23_16
  c23_17)
abbrev c23_14 : PCode :=
 (.seq (.region [⟨(.some 55), (.bin .eql (.t 48) (.c (.d (.int .i64 1)))), .none⟩,
   ⟨(.some 54), (.mov (.t 55)), .none⟩])
 c23_15)
abbrev c23_12 : PCode :=
 (.cond (.t 49)
  c23_13
  c23_14)
abbrev c23_11 : PCode :=
 (.block 2 (.seq (.region [⟨(.some 50), (.bin .eql (.t 48) (.c (.d (.int .i64 0)))), .none⟩,
   ⟨(.some 49), (.mov (.t 50)), .none⟩])
 c23_12))
abbrev c23_10 : PCode :=
 (.keep [0, 1, 3, 8, 9, 10, 11] (.seq (.region [⟨(.some 47), (.faddr 0 (.t 9)), .none⟩,
   ⟨(.some 48), (.load .false 1 (.t 47) .false), .none⟩])
 c23_11))
abbrev c23_9 : PCode :=
 (.keep [0, 1, 3, 8, 9, 10, 11] (.seq (.region [⟨(.some 45), (.mov (.t 8)), .none⟩,
   ⟨(.some 46), (.bin .add (.t 45) (.c (.d (.int .i64 1)))), .none⟩,
   ⟨(.some 8), (.mov (.t 46)), .none⟩])
 c23_10))
abbrev c23_6 : PCode :=
 (.seq (.seq (.region [⟨(.some 35), (.faddr 3 (.t 9)), .none⟩,
   ⟨(.some 36), (.load .false 1 (.t 35) .false), .none⟩,
   ⟨(.some 37), (.bin .lss (.t 36) (.c (.d (.int .i64 16)))), .none⟩])
 c23_7)
 c23_9)
abbrev c23_5 : PCode :=
 (.keep [0, 1, 3, 8, 9, 10] (.seq (.region [⟨(.some 11), (.mov (.c (.d (.int .i64 0)))), .none⟩])
 c23_6))
abbrev c23_4 : PCode :=
 (.keep [0, 1, 3, 8, 9] (.seq (.region [⟨(.some 28), (.mov (.t 0)), .none⟩,
   ⟨(.some 29), (.faddr 2 (.t 9)), .none⟩,
   ⟨(.some 30), (.load .false 1 (.t 29) .false), .none⟩,
   ⟨(.some 31), (.nilchk (.t 28)), .none⟩,
   ⟨(.some 32), (.faddr 0 (.t 31)), .none⟩,
   ⟨(.some 33), (.iaddrA 16 1 (.t 32) (.t 30)), .none⟩,
   ⟨(.some 34), (.load .false 1 (.t 33) .false), .none⟩,
   ⟨(.some 10), (.mov (.t 34)), .none⟩])
 c23_5))
abbrev c23_3 : PCode :=
 (.block 1 (.seq (.region [⟨(.some 24), (.mov (.t 1)), .none⟩,
   ⟨(.some 25), (.mov (.t 8)), .none⟩,
   ⟨(.some 26), (.iaddr 5 (.t 24) (.t 25)), .none⟩,
   ⟨(.some 27), (.load .true 5 (.t 26) .false), .none⟩,
   ⟨(.some 9), (.alloc [(.d (.int .i64 0)), (.d (.int .i64 0)), (.d (.int .i64 0)), (.d (.int .i64 0)), (.d (.int .i64 0))]), .none⟩,
   ⟨.none, (.store 5 (.t 9) (.t 27)), .none⟩])
 c23_4))
abbrev c23_0 : PCode :=
 (.block 0 (.loop (.some [8, 0, 1, 3]) (.seq (.seq (.region [⟨(.some 14), (.mov (.t 8)), .none⟩,
   ⟨(.some 15), (.mov (.t 3)), .none⟩,
   ⟨(.some 16), (.bin .lss (.t 14) (.t 15)), .none⟩,
   ⟨(.some 17), (.mov (.t 16)), .none⟩,
   ⟨(.some 18), (.mov (.t 0)), (.some (17, .true))⟩,
   ⟨(.some 19), (.nilchk (.t 18)), (.some (17, .true))⟩,
   ⟨(.some 20), (.faddr 17 (.t 19)), (.some (17, .true))⟩,
   ⟨(.some 21), (.load .false 1 (.t 20) .false), (.some (17, .true))⟩,
   ⟨(.some 22), (.not (.t 21)), (.some (17, .true))⟩,
   ⟨(.some 23), (.pick (.t 17) (.t 22) (.c (.d (.bool .false)))), .none⟩])
 c23_1)
 c23_3)))
def c23 : PFun := ⟨
 (.seq (.region [⟨(.some 13), (.mov (.t 2)), .none⟩,
   ⟨(.some 8), (.mov (.t 13)), .none⟩])
 c23_0),
 4, 197, []⟩

theorem e23 : entered Try.prog 23 = true := by kernel_rfl
theorem k23 : compFun Try.prog (fun _ => 0) 23 = some c23.er := by kernel_rfl

/-- prompter/prompterlaw10.Ref -/
abbrev c22_4 : PCode :=
 (.region [⟨(.some 12), (.mov (.t 3)), .none⟩,
   ⟨(.some 13), (.faddr 0 (.t 5)), .none⟩,
   ⟨(.some 14), (.load .false 1 (.t 13) .false), .none⟩,
   ⟨(.some 15), (.cvt .i64 (.t 14)), .none⟩,
   ⟨(.some 16), (.faddr 1 (.t 5)), .none⟩,
   ⟨(.some 17), (.load .false 1 (.t 16) .false), .none⟩,
   ⟨(.some 18), (.cvt .i64 (.t 17)), .none⟩,
   ⟨(.some 19), (.faddr 2 (.t 5)), .none⟩,
   ⟨(.some 20), (.load .false 1 (.t 19) .false), .none⟩,
   ⟨(.some 21), (.cvt .i64 (.t 20)), .none⟩,
   ⟨(.some 22), (.faddr 3 (.t 5)), .none⟩,
   ⟨(.some 23), (.load .false 1 (.t 22) .false), .none⟩,
   ⟨(.some 24), (.cvt .i64 (.t 23)), .none⟩,
   ⟨(.some 25), (.faddr 4 (.t 5)), .none⟩,
   ⟨(.some 26), (.load .false 1 (.t 25) .false), .none⟩,
   ⟨(.some 27), (.cvt .i64 (.t 26)), .none⟩,
   ⟨(.some 28), (.bld [(.d (.int .i64 0)), (.d (.int .i64 0)), (.d (.int .i64 0)), (.d (.int .i64 0)), (.d (.int .i64 0))] [(0, (1, (.t 15))), (1, (1, (.t 18))), (2, (1, (.t 21))), (3, (1, (.t 24))), (4, (1, (.t 27)))]), .none⟩,
   ⟨(.some 29), (.bsl 5 [(.t 28)]), .none⟩,
   ⟨(.some 30), (.app 5 40 (.t 12) (.t 29)), .none⟩,
   ⟨(.some 3), (.mov (.t 30)), .none⟩])
abbrev c22_3 : PCode :=
 (.block 1 (.seq (.region [⟨(.some 10), (.iaddr 5 (.t 6) (.t 8)), .none⟩,
   ⟨(.some 11), (.load .true 5 (.t 10) .false), .none⟩,
   ⟨(.some 5), (.alloc [(.d (.int .u8 0)), (.d (.int .u8 0)), (.d (.int .u8 0)), (.d (.int .u8 0)), (.d (.int .i16 0))]), .none⟩,
   ⟨.none, (.store 5 (.t 5) (.t 11)), .none⟩])
 c22_4))
abbrev c22_2 : PCode :=
 (.keep [3, 6, 7, 8] (.block 0 (.loop (.some [8, 3, 6, 7]) (.seq (.region [⟨(.some 9), (.bin .lss (.t 8) (.t 7)), .none⟩])
 (.seq (.cond (.t 9)
  .skip
  (.exit 0))
 (.seq c22_3
 (.region [⟨(.some 31), (.bin .add (.t 8) (.c (.d (.int .i64 1)))), .none⟩,
   ⟨(.some 8), (.mov (.t 31)), .none⟩])))))))
abbrev c22_5 : PCode :=
 (.seq (.region [⟨(.some 32), (.mov (.t 3)), .none⟩,
   ⟨(.some 2), (.mov (.t 32)), .none⟩])
 .ret)
abbrev c22_1 : PCode :=
 (.seq (.seq (.region [⟨(.some 6), (.mov (.t 0)), .none⟩,
   ⟨(.some 7), (.len (.t 6)), .none⟩,
   ⟨(.some 8), (.mov (.c (.d (.int .i64 0)))), .none⟩])
 c22_2)
 c22_5)
abbrev c22_0 : PCode :=
 (.seq (.region [⟨(.some 3), (.mov (.c (.full []))), .none⟩])
 c22_1)
def c22 : PFun := ⟨
 (.seq (.region [⟨(.some 2), (.mov (.c (.full []))), .none⟩])
 c22_0),
 1, 33, [(.tmp 2)]⟩

theorem e22 : entered Try.prog 22 = true := by kernel_rfl
theorem k22 : compFun Try.prog (fun _ => 0) 22 = some c22.er := by kernel_rfl


/-- The reference's machine. -/
def mcells (R : List Int) (sm : Int) (ov : Bool) (e r : Int) : List AV := R.map (fun n => .d (.int .i64 n)) ++ [.d (.int .i64 sm), .d (.bool ov), .d (.int .i64 e), .d (.int .i64 r)]
theorem mcells_len (R : List Int) (sm : Int) (ov : Bool) (e r : Int) : (mcells R sm ov e r).length = R.length + 4 := by simp [mcells]
theorem mcells_get {R : List Int} (sm : Int) (ov : Bool) (e r : Int) {k : Int} (h : k.toNat < R.length) : ldv false 1 ((mcells R sm ov e r).drop (0 + k.toNat * 1)) = some (.d (.int .i64 (rg R k))) := by
  unfold ldv
  have hl : ((mcells R sm ov e r).drop (0 + k.toNat * 1)).length = R.length + 4 - k.toNat := by simp [mcells]
  rw [if_neg (by omega)]
  simp only [Bool.false_eq_true, if_false, if_true]
  rw [List.head?_drop, Nat.mul_one, Nat.zero_add, mcells, List.getElem?_append_left (by simpa using h), List.getElem?_map, List.getElem?_eq_getElem h]
  simp [rg, h]
theorem mcells_sum {R : List Int} (sm : Int) (ov : Bool) (e r : Int) (h : R.length = 16) : ldv false 1 ((mcells R sm ov e r).drop 16) = some (.d (.int .i64 sm)) := by
  unfold ldv
  simp [mcells, h]
theorem mcells_ov {R : List Int} (sm : Int) (ov : Bool) (e r : Int) (h : R.length = 16) : ldv false 1 ((mcells R sm ov e r).drop 17) = some (.d (.bool ov)) := by
  unfold ldv
  simp [mcells, h]
theorem mcells_set {R : List Int} (sm : Int) (ov : Bool) (e r : Int) {k : Int} (h : k.toNat < R.length) (v : Int) : (mcells R sm ov e r).take (0 + k.toNat * 1) ++ [.d (.int .i64 v)] ++ (mcells R sm ov e r).drop (0 + k.toNat * 1 + 1) = mcells (R.set k.toNat v) sm ov e r := by
  have e1 : (mcells R sm ov e r).set k.toNat (.d (.int .i64 v)) = mcells (R.set k.toNat v) sm ov e r := by
    unfold mcells
    rw [List.set_append_left _ _ (by simpa using h), List.map_set]
  rw [← e1, List.set_eq_take_append_cons_drop, if_pos (by rw [mcells_len]; omega), Nat.mul_one, Nat.zero_add, List.append_assoc]
  rfl
theorem mcells_at {R : List Int} {sm : Int} {ov : Bool} {e r : Int} {ov' : Bool} {e' r' : Int} (h : R.length = 16) {k : Nat} {c : AV} (hk : k < 4) (hc : ([.d (.int .i64 sm), .d (.bool ov), .d (.int .i64 e), .d (.int .i64 r)] : List AV).set k c = [.d (.int .i64 sm), .d (.bool ov'), .d (.int .i64 e'), .d (.int .i64 r')]) :
    (mcells R sm ov e r).take (16 + k) ++ [c] ++ (mcells R sm ov e r).drop (16 + k + 1) = mcells R sm ov' e' r' := by
  have e1 : (mcells R sm ov e r).set (16 + k) c = mcells R sm ov' e' r' := by
    unfold mcells
    rw [List.set_append_right _ _ (by simp [h]), ← hc]
    simp [h]
  rw [← e1, List.set_eq_take_append_cons_drop, if_pos (by rw [mcells_len]; omega), List.append_assoc]
  rfl
section
variable {G : Glob} {C : CallsP}
theorem msumA {st t : St} {L Z : List Item} {x : Arg} {d : Option Nat} {rest : List POper} {K : X → Prop} {s : Slots} {m : Mx} {b : Nat} {R : List Int} {sm : Int} {ov : Bool} {e r : Int} (hL : Lay st L t) (hR : R.length = 16)
    (h : pops G C rest K ⟨put s d (.d (.int .i64 sm)), m⟩) (hm : m.st = t := by rfl) (hx : x.ev G s = .d (.ptr b 16) := by rfl) (hr : Rem (.box b (mcells R sm ov e r)) L Z := by (repeat (first | exact Rem.head | apply Rem.tail))) : pops G C (⟨d, .load false 1 x false, none⟩ :: rest) K ⟨s, m⟩ :=
  po_loadL hL hm hx hr (mcells_sum sm ov e r hR) h
theorem movA {st t : St} {L Z : List Item} {x : Arg} {d : Option Nat} {rest : List POper} {K : X → Prop} {s : Slots} {m : Mx} {b : Nat} {R : List Int} {sm : Int} {ov : Bool} {e r : Int} (hL : Lay st L t) (hR : R.length = 16)
    (h : pops G C rest K ⟨put s d (.d (.bool ov)), m⟩) (hm : m.st = t := by rfl) (hx : x.ev G s = .d (.ptr b 17) := by rfl) (hr : Rem (.box b (mcells R sm ov e r)) L Z := by (repeat (first | exact Rem.head | apply Rem.tail))) : pops G C (⟨d, .load false 1 x false, none⟩ :: rest) K ⟨s, m⟩ :=
  po_loadL hL hm hx hr (mcells_ov sm ov e r hR) h
theorem mloadA {st t : St} {L Z : List Item} {x : Arg} {d : Option Nat} {rest : List POper} {K : X → Prop} {s : Slots} {m : Mx} {b : Nat} {R : List Int} {sm : Int} {ov : Bool} {e r k : Int} (hL : Lay st L t) (hR : R.length = 16) (hk : 0 ≤ k ∧ k < 16)
    (h : pops G C rest K ⟨put s d (.d (.int .i64 (rg R k))), m⟩) (hm : m.st = t := by rfl) (hx : x.ev G s = .d (.ptr b (k.toNat * 1)) := by rfl) (hr : Rem (.box b (mcells R sm ov e r)) L Z := by (repeat (first | exact Rem.head | apply Rem.tail))) : pops G C (⟨d, .load false 1 x false, none⟩ :: rest) K ⟨s, m⟩ :=
  po_loadL hL hm (by rw [hx, Nat.zero_add]) hr (mcells_get sm ov e r (by omega)) h
theorem mstoreA {st t : St} {L Z : List Item} {x y : Arg} {d : Option Nat} {rest : List POper} {K : X → Prop} {s : Slots} {m : Mx} {b : Nat} {R : List Int} {sm : Int} {ov : Bool} {e r k v : Int} (hL : Lay st L t) (hR : R.length = 16) (hk : 0 ≤ k ∧ k < 16)
    (h : ∀ t', Lay st (.box b (mcells (R.set k.toNat v) sm ov e r) :: Z) t' → pops G C rest K ⟨put s d .undef, m.past t'⟩) (hm : m.st = t := by rfl) (hx : x.ev G s = .d (.ptr b (k.toNat * 1)) := by rfl) (hr : Rem (.box b (mcells R sm ov e r)) L Z := by (repeat (first | exact Rem.head | apply Rem.tail)))
    (hy : y.ev G s = .d (.int .i64 v) := by rfl) (hh : ∀ u, m.holds u := by exact fun _ _ _ h => False.elim h) : pops G C (⟨d, .store 1 x y, none⟩ :: rest) K ⟨s, m⟩ :=
  po_storeL hL hm (by rw [hx, Nat.zero_add]) hr (cs := [.d (.int .i64 v)]) (by rw [hy]; rfl) ⟨rfl, rfl⟩ (by rw [mcells_len]; omega) (mcells_set sm ov e r (by omega) v) hh h
theorem mstoreB {st t : St} {L Z : List Item} {x y : Arg} {d : Option Nat} {rest : List POper} {K : X → Prop} {s : Slots} {m : Mx} {b : Nat} {R : List Int} {sm : Int} {ov : Bool} {e r : Int} (ov' : Bool) (e' r' : Int) (k : Nat) {c : AV} (hk : k < 4) (hL : Lay st L t) (hR : R.length = 16)
    (hc : ([.d (.int .i64 sm), .d (.bool ov), .d (.int .i64 e), .d (.int .i64 r)] : List AV).set k c = [.d (.int .i64 sm), .d (.bool ov'), .d (.int .i64 e'), .d (.int .i64 r')]) (hx : x.ev G s = .d (.ptr b (16 + k)))
    (h : ∀ t', Lay st (.box b (mcells R sm ov' e' r') :: Z) t' → pops G C rest K ⟨put s d .undef, m.past t'⟩) (hm : m.st = t := by rfl) (hr : Rem (.box b (mcells R sm ov e r)) L Z := by (repeat (first | exact Rem.head | apply Rem.tail)))
    (hy : (y.ev G s).cells = [c] := by rfl) (hs : c.sc = true := by rfl) (hh : ∀ u, m.holds u := by exact fun _ _ _ h => False.elim h) : pops G C (⟨d, .store 1 x y, none⟩ :: rest) K ⟨s, m⟩ :=
  po_storeL hL hm hx hr (cs := [c]) hy ⟨rfl, by simp [hs]⟩ (by rw [mcells_len]; omega) (mcells_at hR hk hc) hh h
end
/-- How a machine ends. -/
def outOk : Out → List Int → Bool → Int → Int → Prop
  | .done b R, R', ov, e, r => R' = R ∧ ov = !b ∧ e = 0 ∧ r = 0
  | .fail e2 r2, _, ov, e, r => ov = true ∧ e = e2 ∧ r = r2
  | .stuck, _, _, _, _ => False
structure MEnd (o : Out) where
  R : List Int
  ov : Bool
  e : Int
  r : Int
  ok : outOk o R ov e r
  len : R.length = 16
theorem m_sat {o : Out} (h : o ≠ .stuck) (hl : ∀ b R, o = .done b R → R.length = 16) (pm : Nat) (l : List AV) (sm : Int) : Sat [.box pm l] (fun a : MEnd o => [.box pm (mcells a.R sm a.ov a.e a.r)]) := by
  have h0 : Nonempty (MEnd o) := by
    cases o with
    | done b R => exact ⟨⟨R, !b, 0, 0, ⟨rfl, rfl, rfl, rfl⟩, hl b R rfl⟩⟩
    | fail e r => exact ⟨⟨List.replicate 16 0, true, e, r, ⟨rfl, rfl, rfl⟩, List.length_replicate ..⟩⟩
    | stuck => exact absurd rfl h
  exact fun _ => ⟨Classical.choice h0, fun x hx => by
    rw [List.mem_singleton.1 hx]
    exact .inl ⟨_, List.mem_cons_self, _, rfl⟩, by simp⟩
theorem box_sat1 (pm : Nat) (l l' : List AV) : Sat [.box pm l] (fun _ : Unit => [.box pm l']) := box_sat pm l l'
/-- One that is over stays so. -/
theorem refRunOver (p : List Ins) (pm : Nat) (i to : Nat) (R : List Int) (hR : R.length = 16) (sm e r : Int) :
    CL (PCalls Try.prog GG) 23 [ptrAt pm, .d (.sl (p.map Ins.rrow)), i64 i, i64 to] [.box pm (mcells R sm true e r)] (fun _ : Unit => .tup []) (fun _ => [.box pm (mcells R sm true e r)]) := by
  refine ⟨box_sat _ _ _, ?_⟩
  intro st t hL; refine pcalls_of k23 e23 (of_decide_eq_true rfl) ?_; dsimp only [c23]; generalize hQ : pfin _ _ = Q
  refine gor hL ?_; (repeat (clear hL; intro t hL; refine gor hL ?_))
  refine pblock ?_
  refine ploop (fun (g : Nat) s t => s = put (put (put (put (fun _ => .undef) (some 3) (i64 to)) (some 1) (.d (.sl (p.map Ins.rrow)))) (some 0) (ptrAt pm)) (some 8) (i64 i) ∧ Lay st [.box pm (mcells R sm true e r)] t) ?_ (m := 0) ⟨(by first | exact trimA | simp +decide only [pvc, pvi, pvt]), hL⟩
  clear hL
  rintro g s t ⟨rfl, hL⟩
  refine gor hL ?_; (repeat (clear hL; intro t hL; refine gor hL ?_))
  by_cases h0 : i < to
  · refine gnm ?_; rw [show decide ((i : Int) < to) = true from decide_eq_true (by omega)]
    refine gor hL ?_; (repeat (clear hL; intro t hL; refine gor hL ?_))
    refine movA hL hR ?_
    refine gor hL ?_; (repeat (clear hL; intro t hL; refine gor hL ?_))
    rw [← hQ]
    exact ⟨_, _, _, rfl, .inl rfl, .refl _, (), rfl, hL.pk⟩
  · refine gnm ?_; rw [show decide ((i : Int) < to) = false from decide_eq_false (by omega)]
    refine gor hL ?_; (repeat (clear hL; intro t hL; refine gor hL ?_))
    rw [← hQ]
    exact ⟨_, _, _, rfl, .inl rfl, .refl _, (), rfl, hL.pk⟩
theorem refRunC (p : List Ins) (hp : ∀ x ∈ p, x.fit) (hpl : p.length < 2 ^ 40) (args : List Int) (pm : Nat) :
    ∀ (f i to : Nat) (R : List Int) (o : Out), go p args f i to R = o → o ≠ .stuck → R.length = 16 → i ≤ 2 ^ 41 → to ≤ 2 ^ 41 →
      CL (PCalls Try.prog GG) 23 [ptrAt pm, .d (.sl (p.map Ins.rrow)), i64 i, i64 to] [.box pm (mcells R (sumOf args) false 0 0)] (fun _ : MEnd o => .tup []) (fun a => [.box pm (mcells a.R (sumOf args) a.ov a.e a.r)]) := by
  intro f
  induction f using Nat.strongRecOn with
  | ind f IH =>
  intro i to R o hgo hst hR hi hto
  refine ⟨m_sat hst (fun b R' h => by rw [h] at hgo; rw [go_len _ _ _ _ _ _ hgo, hR]) _ _ _, ?_⟩
  intro st t hL; refine pcalls_of k23 e23 (of_decide_eq_true rfl) ?_; dsimp only [c23]; generalize hQ : pfin _ _ = Q
  refine gor hL ?_; (repeat (clear hL; intro t hL; refine gor hL ?_))
  refine pblock ?_
  refine ploop (fun (g : Nat) s t => ∃ (i : Nat) (R : List Int) (ov : Bool) (e r : Int), g ≤ f ∧ s = put (put (put (put (fun _ => .undef) (some 3) (i64 to)) (some 1) (.d (.sl (p.map Ins.rrow)))) (some 0) (ptrAt pm)) (some 8) (i64 i) ∧ Lay st [.box pm (mcells R (sumOf args) ov e r)] t ∧ R.length = 16 ∧ i ≤ 2 ^ 41 ∧ (ov = false → e = 0 ∧ r = 0 ∧ go p args g i to R = o) ∧ (ov = true → outOk o R true e r)) ?_ (m := f) ⟨i, R, false, 0, 0, Nat.le_refl _, (by first | exact trimA | simp +decide only [pvc, pvi, pvt]), hL, hR, hi, fun _ => ⟨rfl, rfl, hgo⟩, fun h => by cases h⟩
  clear hL hgo hR hi R i t
  rintro g s t ⟨i, R, ov, e, r, hg, rfl, hL, hR, hi, hgo, hov⟩
  refine gor hL ?_; (repeat (clear hL; intro t hL; refine gor hL ?_))
  cases ov with
  | true =>
    by_cases h0 : i < to
    · refine gnm ?_; rw [show decide ((i : Int) < to) = true from decide_eq_true (by omega)]
      refine gor hL ?_; (repeat (clear hL; intro t hL; refine gor hL ?_))
      refine movA hL hR ?_
      refine gor hL ?_; (repeat (clear hL; intro t hL; refine gor hL ?_))
      rw [← hQ]
      exact ⟨_, _, _, rfl, .inl rfl, .refl _, ⟨R, true, e, r, hov rfl, hR⟩, rfl, hL.pk⟩
    · refine gnm ?_; rw [show decide ((i : Int) < to) = false from decide_eq_false (by omega)]
      refine gor hL ?_; (repeat (clear hL; intro t hL; refine gor hL ?_))
      rw [← hQ]
      exact ⟨_, _, _, rfl, .inl rfl, .refl _, ⟨R, true, e, r, hov rfl, hR⟩, rfl, hL.pk⟩
  | false =>
  clear hov
  replace hgo := hgo rfl
  obtain ⟨rfl, rfl, hgo⟩ := hgo
  have ho : g ≠ 0 := fun e => by subst e; exact hst hgo.symm
  obtain ⟨g, rfl⟩ := Nat.exists_eq_succ_of_ne_zero ho
  by_cases h0 : i < to
  rotate_left
  · rw [go, if_neg h0] at hgo
    refine gnm ?_; rw [show decide ((i : Int) < to) = false from decide_eq_false (by omega)]
    refine gor hL ?_; (repeat (clear hL; intro t hL; refine gor hL ?_))
    rw [← hQ]
    exact ⟨_, _, _, rfl, .inl rfl, .refl _, ⟨R, false, 0, 0, by rw [← hgo]; exact ⟨rfl, rfl, rfl, rfl⟩, hR⟩, rfl, hL.pk⟩
  rw [go, if_pos h0] at hgo
  cases hx : p[i]? with
  | none => rw [hx] at hgo; exact absurd hgo.symm hst
  | some x =>
  rw [hx] at hgo
  simp only at hgo
  have hxf := hp x (List.mem_of_getElem? hx)
  by_cases hb : 16 ≤ x.dst ∨ 16 ≤ x.a
  · rw [if_pos hb] at hgo; exact absurd hgo.symm hst
  rw [if_neg hb] at hgo
  have hda : (0 ≤ x.dst ∧ x.dst < 16) ∧ (0 ≤ x.a ∧ x.a < 16) := by have := hxf.dst; have := hxf.a; omega
  have hi2 : i < p.length := (List.getElem?_eq_some_iff.1 hx).1
  have hi1 : IntKind.i64.wrap ((i : Int) + 1) = ((i + 1 : Nat) : Int) := IntWalk.i64_in _ (by omega)
  refine gnm ?_; rw [show decide ((i : Int) < to) = true from decide_eq_true (by omega)]
  refine gor hL ?_; (repeat (clear hL; intro t hL; refine gor hL ?_))
  refine movA hL hR ?_
  refine gor hL ?_; (repeat (clear hL; intro t hL; refine gor hL ?_))
  (refine gor hL ?_; (repeat (clear hL; intro t hL; refine gor hL ?_))); (with_reducible refine po_allocL hL rfl ?_); clear hL; intro p9 t hL
  refine gor hL ?_; (repeat (clear hL; intro t hL; refine gor hL ?_))
  refine riaA hda.2 ?_
  refine mloadA hL hR hda.2 ?_
  refine gor hL ?_; (repeat (clear hL; intro t hL; refine gor hL ?_))
  refine pjoin (fun s u => s = put (put (put (put (put (put (put (fun _ => .undef) (some 11) (.d (.int .i64 (bOf x R)))) (some 10) (.d (.int .i64 (rg R x.a)))) (some 9) (ptrAt p9)) (some 8) (i64 i)) (some 3) (i64 to)) (some 1) (.d (.sl (p.map Ins.rrow)))) (some 0) (ptrAt pm) ∧ u = t) ?_ ?_
  · refine gor hL ?_; (repeat (clear hL; intro t hL; refine gor hL ?_))
    refine pcond_b rfl (fun hb16 => ?_) (fun hb16 => ?_)
    · have hb16' : x.b < 16 := by simpa using hb16
      rw [bOf, if_pos hb16']
      have hbb : 0 ≤ x.b ∧ x.b < 16 := ⟨hxf.b.1, hb16'⟩
      refine gor hL ?_; (repeat (clear hL; intro t hL; refine gor hL ?_))
      refine riaA hbb ?_
      refine mloadA hL hR hbb ?_
      refine gor hL ?_; (repeat (clear hL; intro t hL; refine gor hL ?_))
      exact ⟨by first | rfl | simp +decide only [pvc, pvi, pvt], trivial⟩
    · have hb16' : ¬ x.b < 16 := by simpa using hb16
      rw [bOf, if_neg hb16']
      refine gor hL ?_; (repeat (clear hL; intro t hL; refine gor hL ?_))
      exact ⟨by first | rfl | simp +decide only [pvc, pvi, pvt], trivial⟩
  rintro s u ⟨rfl, rfl⟩
  have hset : ∀ v, (R.set x.dst.toNat v).length = 16 := fun v => by rw [List.length_set]; exact hR
  unfold act at hgo
  generalize hbo : bOf x R = bb at hgo ⊢
  generalize hao : rg R x.a = aa at hgo ⊢
  refine gor hL ?_; (repeat (clear hL; intro t hL; refine gor hL ?_))
  refine gnm ?_; rw [hi1]
  refine gor hL ?_; (repeat (clear hL; intro t hL; refine gor hL ?_))
  refine pcond_b rfl (fun c0 => ?_) (fun c0 => ?_)
  · have c0' : x.op = 0 := by simpa using c0
    rw [if_pos c0'] at hgo
    refine gor hL ?_; (repeat (clear hL; intro t hL; refine gor hL ?_))
    refine mstoreB true 0 0 1 (by decide) hL hR rfl rfl ?_
    clear hL; intro t hL
    refine gor hL ?_; (repeat (clear hL; intro t hL; refine gor hL ?_))
    exact ⟨g, by omega, i + 1, _, true, 0, 0, by omega, by first | rfl | simp +decide only [pvc, pvi, pvt], hL.pk, hR, by omega, fun h => (by cases h), fun _ => by rw [← hgo]; exact ⟨rfl, rfl, rfl, rfl⟩⟩
  have n0 : ¬ x.op = 0 := by simpa using c0
  rw [if_neg n0] at hgo
  refine gor hL ?_; (repeat (clear hL; intro t hL; refine gor hL ?_))
  refine pcond_b rfl (fun c1 => ?_) (fun c1 => ?_)
  · have c1' : x.op = 1 := by simpa using c1
    rw [if_neg (by omega), if_neg (by omega), if_neg (by omega), if_neg (by omega)] at hgo
    simp +decide only [actV, c1', if_true, if_false] at hgo
    refine gor hL ?_; (repeat (clear hL; intro t hL; refine gor hL ?_))
    refine riaA hda.1 ?_
    refine gor hL ?_; (repeat (clear hL; intro t hL; refine gor hL ?_))
    refine mstoreA hL hR hda.1 ?_
    clear hL; intro t hL
    refine gor hL ?_; (repeat (clear hL; intro t hL; refine gor hL ?_))
    exact ⟨g, by omega, i + 1, _, false, 0, 0, by omega, by first | rfl | simp +decide only [pvc, pvi, pvt], hL.pk, hset _, by omega, fun _ => ⟨rfl, rfl, hgo⟩, fun h => by cases h⟩
  have n1 : ¬ x.op = 1 := by simpa using c1
  refine gor hL ?_; (repeat (clear hL; intro t hL; refine gor hL ?_))
  refine pcond_b rfl (fun c2 => ?_) (fun c2 => ?_)
  · have c2' : x.op = 2 := by simpa using c2
    rw [if_neg (by omega), if_neg (by omega), if_neg (by omega), if_neg (by omega)] at hgo
    simp +decide only [actV, c2', if_true, if_false] at hgo
    refine gor hL ?_; (repeat (clear hL; intro t hL; refine gor hL ?_))
    refine riaA hda.1 ?_
    refine gor hL ?_; (repeat (clear hL; intro t hL; refine gor hL ?_))
    refine mstoreA hL hR hda.1 ?_
    clear hL; intro t hL
    refine gor hL ?_; (repeat (clear hL; intro t hL; refine gor hL ?_))
    exact ⟨g, by omega, i + 1, _, false, 0, 0, by omega, by first | rfl | simp +decide only [pvc, pvi, pvt], hL.pk, hset _, by omega, fun _ => ⟨rfl, rfl, hgo⟩, fun h => by cases h⟩
  have n2 : ¬ x.op = 2 := by simpa using c2
  refine gor hL ?_; (repeat (clear hL; intro t hL; refine gor hL ?_))
  refine pcond_b rfl (fun c3 => ?_) (fun c3 => ?_)
  · have c3' : x.op = 3 := by simpa using c3
    rw [if_neg (by omega), if_neg (by omega), if_neg (by omega), if_neg (by omega)] at hgo
    simp +decide only [actV, c3', if_true, if_false] at hgo
    refine gor hL ?_; (repeat (clear hL; intro t hL; refine gor hL ?_))
    refine riaA hda.1 ?_
    refine gor hL ?_; (repeat (clear hL; intro t hL; refine gor hL ?_))
    refine mstoreA hL hR hda.1 ?_
    clear hL; intro t hL
    refine gor hL ?_; (repeat (clear hL; intro t hL; refine gor hL ?_))
    exact ⟨g, by omega, i + 1, _, false, 0, 0, by omega, by first | rfl | simp +decide only [pvc, pvi, pvt], hL.pk, hset _, by omega, fun _ => ⟨rfl, rfl, hgo⟩, fun h => by cases h⟩
  have n3 : ¬ x.op = 3 := by simpa using c3
  refine gor hL ?_; (repeat (clear hL; intro t hL; refine gor hL ?_))
  refine pcond_b rfl (fun c4 => ?_) (fun c4 => ?_)
  · have c4' : x.op = 4 := by simpa using c4
    rw [if_neg (by omega), if_neg (by omega), if_neg (by omega), if_neg (by omega)] at hgo
    simp +decide only [actV, c4', if_true, if_false] at hgo
    refine gor hL ?_; (repeat (clear hL; intro t hL; refine gor hL ?_))
    refine riaA hda.1 ?_
    refine gor hL ?_; (repeat (clear hL; intro t hL; refine gor hL ?_))
    refine mstoreA hL hR hda.1 ?_
    clear hL; intro t hL
    refine gor hL ?_; (repeat (clear hL; intro t hL; refine gor hL ?_))
    exact ⟨g, by omega, i + 1, _, false, 0, 0, by omega, by first | rfl | simp +decide only [pvc, pvi, pvt], hL.pk, hset _, by omega, fun _ => ⟨rfl, rfl, hgo⟩, fun h => by cases h⟩
  have n4 : ¬ x.op = 4 := by simpa using c4
  refine gor hL ?_; (repeat (clear hL; intro t hL; refine gor hL ?_))
  refine pcond_b rfl (fun c5 => ?_) (fun c5 => ?_)
  · have c5' : x.op = 5 := by simpa using c5
    rw [if_neg (by omega), if_neg (by omega), if_neg (by omega), if_neg (by omega)] at hgo
    simp +decide only [actV, c5', if_true, if_false] at hgo
    refine gor hL ?_; (repeat (clear hL; intro t hL; refine gor hL ?_))
    refine riaA hda.1 ?_
    refine gor hL ?_; (repeat (clear hL; intro t hL; refine gor hL ?_))
    refine mstoreA hL hR hda.1 ?_
    clear hL; intro t hL
    refine gor hL ?_; (repeat (clear hL; intro t hL; refine gor hL ?_))
    exact ⟨g, by omega, i + 1, _, false, 0, 0, by omega, by first | rfl | simp +decide only [pvc, pvi, pvt], hL.pk, hset _, by omega, fun _ => ⟨rfl, rfl, hgo⟩, fun h => by cases h⟩
  have n5 : ¬ x.op = 5 := by simpa using c5
  refine gor hL ?_; (repeat (clear hL; intro t hL; refine gor hL ?_))
  refine pcond_b rfl (fun c6 => ?_) (fun c6 => ?_)
  · have c6' : x.op = 6 := by simpa using c6
    refine gor hL ?_; (repeat (clear hL; intro t hL; refine gor hL ?_))
    refine pcond_b rfl (fun cz => ?_) (fun cz => ?_)
    · have cz' : bb = 0 := by simpa using cz
      rw [if_pos ⟨c6', cz'⟩] at hgo
      refine gor hL ?_; (repeat (clear hL; intro t hL; refine gor hL ?_))
      refine mstoreB true 0 0 1 (by decide) hL hR rfl rfl ?_
      clear hL; intro t hL
      refine gor hL ?_; (repeat (clear hL; intro t hL; refine gor hL ?_))
      refine mstoreB true 14 0 2 (by decide) hL hR rfl rfl ?_
      clear hL; intro t hL
      refine gor hL ?_; (repeat (clear hL; intro t hL; refine gor hL ?_))
      exact ⟨g, by omega, i + 1, _, true, 14, 0, by omega, by first | rfl | simp +decide only [pvc, pvi, pvt], hL.pk, hR, by omega, fun h => (by cases h), fun _ => by rw [← hgo]; exact ⟨rfl, rfl, rfl⟩⟩
    · have cz' : ¬ bb = 0 := by simpa using cz
      rw [if_neg (by omega), if_neg (by omega), if_neg (by omega), if_neg (by omega)] at hgo
      simp +decide only [actV, c6', if_true, if_false] at hgo
      refine gor hL ?_; (repeat (clear hL; intro t hL; refine gor hL ?_))
      refine po_quo rfl rfl cz' ?_
      refine gor hL ?_; (repeat (clear hL; intro t hL; refine gor hL ?_))
      refine riaA hda.1 ?_
      refine gor hL ?_; (repeat (clear hL; intro t hL; refine gor hL ?_))
      refine mstoreA hL hR hda.1 ?_
      clear hL; intro t hL
      refine gor hL ?_; (repeat (clear hL; intro t hL; refine gor hL ?_))
      exact ⟨g, by omega, i + 1, _, false, 0, 0, by omega, by first | rfl | simp +decide only [pvc, pvi, pvt], hL.pk, hset _, by omega, fun _ => ⟨rfl, rfl, hgo⟩, fun h => by cases h⟩
  have n6 : ¬ x.op = 6 := by simpa using c6
  rw [if_neg (fun h => n6 h.1)] at hgo
  refine gor hL ?_; (repeat (clear hL; intro t hL; refine gor hL ?_))
  refine pcond_b rfl (fun c7 => ?_) (fun c7 => ?_)
  · have c7' : x.op = 7 := by simpa using c7
    rw [if_neg (by omega), if_neg (by omega), if_neg (by omega)] at hgo
    simp +decide only [actV, c7', if_true, if_false] at hgo
    refine gor hL ?_; (repeat (clear hL; intro t hL; refine gor hL ?_))
    refine riaA hda.1 ?_
    refine gor hL ?_; (repeat (clear hL; intro t hL; refine gor hL ?_))
    refine mstoreA hL hR hda.1 ?_
    clear hL; intro t hL
    refine gor hL ?_; (repeat (clear hL; intro t hL; refine gor hL ?_))
    refine pcond_b rfl (fun cl => ?_) (fun cl => ?_)
    · have cl' : aa < bb := by simpa using cl
      rw [if_pos cl'] at hgo
      refine gor hL ?_; (repeat (clear hL; intro t hL; refine gor hL ?_))
      refine riaA hda.1 ?_
      refine gor hL ?_; (repeat (clear hL; intro t hL; refine gor hL ?_))
      refine mstoreA hL (hset _) hda.1 ?_
      clear hL; intro t hL
      rw [List.set_set] at hL
      refine gor hL ?_; (repeat (clear hL; intro t hL; refine gor hL ?_))
      exact ⟨g, by omega, i + 1, _, false, 0, 0, by omega, by first | rfl | simp +decide only [pvc, pvi, pvt], hL.pk, hset _, by omega, fun _ => ⟨rfl, rfl, hgo⟩, fun h => by cases h⟩
    · have cl' : ¬ aa < bb := by simpa using cl
      rw [if_neg cl'] at hgo
      refine gor hL ?_; (repeat (clear hL; intro t hL; refine gor hL ?_))
      exact ⟨g, by omega, i + 1, _, false, 0, 0, by omega, by first | rfl | simp +decide only [pvc, pvi, pvt], hL.pk, hset _, by omega, fun _ => ⟨rfl, rfl, hgo⟩, fun h => by cases h⟩
  have n7 : ¬ x.op = 7 := by simpa using c7
  refine gor hL ?_; (repeat (clear hL; intro t hL; refine gor hL ?_))
  refine pcond_b rfl (fun c8 => ?_) (fun c8 => ?_)
  · have c8' : x.op = 8 := by simpa using c8
    rw [if_neg (by omega), if_neg (by omega)] at hgo
    refine gor hL ?_; (repeat (clear hL; intro t hL; refine gor hL ?_))
    refine pcond_b rfl (fun ca => ?_) (fun ca => ?_)
    · have ca' : aa = 0 := by simpa using ca
      rw [if_pos ⟨c8', ca'⟩] at hgo
      by_cases hneg : x.n < 0
      · rw [if_pos hneg] at hgo; exact absurd hgo.symm hst
      rw [if_neg hneg] at hgo
      have hn := hxf.n
      refine gor hL ?_; (repeat (clear hL; intro t hL; refine gor hL ?_))
      refine gnm ?_; rw [show IntKind.i64.wrap (((i + 1 : Nat) : Int) + x.n) = ((i + 1 + x.n.toNat : Nat) : Int) from (IntWalk.i64_in _ (by omega)).trans (by omega)]
      exact ⟨g, by omega, i + 1 + x.n.toNat, R, false, 0, 0, by omega, by first | rfl | simp +decide only [pvc, pvi, pvt], hL.pk, hR, by omega, fun _ => ⟨rfl, rfl, hgo⟩, fun h => by cases h⟩
    · have ca' : ¬ aa = 0 := by simpa using ca
      rw [if_neg (fun h => ca' h.2)] at hgo
      simp +decide only [actV, c8', if_true, if_false] at hgo
      rw [set_self] at hgo
      refine gor hL ?_; (repeat (clear hL; intro t hL; refine gor hL ?_))
      exact ⟨g, by omega, i + 1, _, false, 0, 0, by omega, by first | rfl | simp +decide only [pvc, pvi, pvt], hL.pk, hR, by omega, fun _ => ⟨rfl, rfl, hgo⟩, fun h => by cases h⟩
  have n8 : ¬ x.op = 8 := by simpa using c8
  refine gor hL ?_; (repeat (clear hL; intro t hL; refine gor hL ?_))
  refine pcond_b rfl (fun c9 => ?_) (fun c9 => ?_)
  · have c9' : x.op = 9 := by simpa using c9
    rw [if_neg (by omega), if_pos c9'] at hgo
    have hb := hxf.b
    have hn := hxf.n
    have eb : IntKind.i64.wrap (((i + 1 : Nat) : Int) + x.b) = ((i + 1 + x.b.toNat : Nat) : Int) := (IntWalk.i64_in _ (by omega)).trans (by omega)
    refine gor hL ?_; (repeat (clear hL; intro t hL; refine gor hL ?_))
    refine pblock (pupA x.n.toNat (fun k s t => ∃ R' ov e r, R'.length = 16 ∧ Lay st [.box pm (mcells R' (sumOf args) ov e r), .box p9 [.d (.int .i64 x.op), .d (.int .i64 x.dst), .d (.int .i64 x.a), .d (.int .i64 x.b), .d (.int .i64 x.n)]] t ∧
      s = put (put (put (put (put (put (fun _ => .undef) (some 9) (ptrAt p9)) (some 8) (i64 (i + 1 : Nat))) (some 3) (i64 to)) (some 1) (.d (.sl (p.map Ins.rrow)))) (some 0) (ptrAt pm)) (some 12) (i64 k) ∧
      (ov = false → e = 0 ∧ r = 0 ∧ (match rep (go p args g (i + 1) (i + 1 + x.b.toNat)) (x.n.toNat - k) R' with | .done true R2 => go p args g (i + 1 + x.b.toNat) to R2 | o => o) = o) ∧ (ov = true → outOk o R' true e r)) ⟨R, false, 0, 0, hR, hL.pk, (by first | exact trimA | simp +decide only [pvc, pvi, pvt]), fun _ => ⟨rfl, rfl, hgo⟩, fun h => by cases h⟩ ?_)
    clear hL hgo hR t
    rintro k s t hk ⟨R', ov, e, r, hR', hL, rfl, hgo, hov⟩
    refine gor hL ?_; (repeat (clear hL; intro t hL; refine gor hL ?_))
    refine pcond_b rfl (fun cr => ?_) (fun cr => ?_)
    · have cr' : (k : Int) < x.n := by simpa using cr
      have hk1 : x.n.toNat - k = x.n.toNat - (k + 1) + 1 := by omega
      have ek : IntKind.i64.wrap ((k : Int) + 1) = ((k + 1 : Nat) : Int) := IntWalk.i64_in _ (by omega)
      refine gor hL ?_; (repeat (clear hL; intro t hL; refine gor hL ?_))
      refine pblock ?_
      refine gor hL ?_; (repeat (clear hL; intro t hL; refine gor hL ?_))
      refine gnm ?_; rw [eb]
      cases ov with
      | true =>
        refine po_callK hL (refRunOver p pm (i + 1) (i + 1 + x.b.toNat) R' hR' (sumOf args) e r) ?_; clear hL; intro _ t hL
        refine gor hL ?_; (repeat (clear hL; intro t hL; refine gor hL ?_))
        refine gnm ?_; rw [ek]
        exact ⟨by omega, R', true, e, r, hR', hL.pk, by first | rfl | simp +decide only [pvc, pvi, pvt], fun h => (by cases h), hov⟩
      | false =>
        replace hgo := hgo rfl
        obtain ⟨rfl, rfl, hgo⟩ := hgo
        clear hov
        rw [hk1, rep] at hgo
        refine po_callK hL (IH g (by omega) (i + 1) (i + 1 + x.b.toNat) R' _ rfl (fun e => by rw [e] at hgo; exact hst hgo.symm) hR' (by omega) (by omega)) ?_
        clear hL
        rintro ⟨R2, ov2, e2, r2, ok2, len2⟩ t hL
        simp only at hL
        refine gor hL ?_; (repeat (clear hL; intro t hL; refine gor hL ?_))
        refine gnm ?_; rw [ek]
        refine ⟨by omega, R2, ov2, e2, r2, len2, hL.pk, by first | rfl | simp +decide only [pvc, pvi, pvt], ?_⟩
        revert ok2 hgo
        generalize go p args g (i + 1) (i + 1 + x.b.toNat) R' = o2
        intro hgo ok2
        cases o2 with
        | stuck => exact ok2.elim
        | fail e3 r3 =>
          obtain ⟨rfl, rfl, rfl⟩ := ok2
          exact ⟨fun h => (by cases h), fun _ => by rw [← hgo]; exact ⟨rfl, rfl, rfl⟩⟩
        | done b3 R3 =>
          obtain ⟨rfl, rfl, rfl, rfl⟩ := ok2
          cases b3 with
          | true => exact ⟨fun _ => ⟨rfl, rfl, hgo⟩, fun h => by cases h⟩
          | false => exact ⟨fun h => (by cases h), fun _ => by rw [← hgo]; exact ⟨rfl, rfl, rfl, rfl⟩⟩
    · have cr' : ¬ (k : Int) < x.n := by simpa using cr
      have hk0 : x.n.toNat - k = 0 := by omega
      rw [hk0] at hgo
      refine gor hL ?_; (repeat (clear hL; intro t hL; refine gor hL ?_))
      refine gnm ?_; rw [eb]
      refine gor hL ?_; (repeat (clear hL; intro t hL; refine gor hL ?_))
      exact ⟨g, by omega, i + 1 + x.b.toNat, R', ov, e, r, by omega, by first | rfl | simp +decide only [pvc, pvi, pvt], hL.pk, hR', by omega, hgo, hov⟩
  have n9 : ¬ x.op = 9 := by simpa using c9
  refine gor hL ?_; (repeat (clear hL; intro t hL; refine gor hL ?_))
  refine pcond_b rfl (fun c10 => ?_) (fun c10 => ?_)
  · have c10' : x.op = 10 := by simpa using c10
    refine gor hL ?_; (repeat (clear hL; intro t hL; refine gor hL ?_))
    refine pcond_b rfl (fun cz => ?_) (fun cz => ?_)
    · have cz' : aa ≠ 0 := by simpa using cz
      rw [if_pos ⟨c10', cz'⟩] at hgo
      refine gor hL ?_; (repeat (clear hL; intro t hL; refine gor hL ?_))
      refine mstoreB true 0 0 1 (by decide) hL hR rfl rfl ?_
      clear hL; intro t hL
      refine gor hL ?_; (repeat (clear hL; intro t hL; refine gor hL ?_))
      refine mstoreB true 16 0 2 (by decide) hL hR rfl rfl ?_
      clear hL; intro t hL
      refine gor hL ?_; (repeat (clear hL; intro t hL; refine gor hL ?_))
      refine mstoreB true 16 x.n 3 (by decide) hL hR rfl rfl ?_
      clear hL; intro t hL
      refine gor hL ?_; (repeat (clear hL; intro t hL; refine gor hL ?_))
      exact ⟨g, by omega, i + 1, _, true, 16, x.n, by omega, by first | rfl | simp +decide only [pvc, pvi, pvt], hL.pk, hR, by omega, fun h => (by cases h), fun _ => by rw [← hgo]; exact ⟨rfl, rfl, rfl⟩⟩
    · have cz' : aa = 0 := by simpa using cz
      rw [if_neg (fun h => h.2 cz'), if_neg n9, if_neg (fun h => n8 h.1)] at hgo
      simp +decide only [actV, c10', if_true, if_false] at hgo
      rw [set_self] at hgo
      refine gor hL ?_; (repeat (clear hL; intro t hL; refine gor hL ?_))
      exact ⟨g, by omega, i + 1, _, false, 0, 0, by omega, by first | rfl | simp +decide only [pvc, pvi, pvt], hL.pk, hR, by omega, fun _ => ⟨rfl, rfl, hgo⟩, fun h => by cases h⟩
  have n10 : ¬ x.op = 10 := by simpa using c10
  rw [if_neg (fun h => n10 h.1), if_neg n9, if_neg (fun h => n8 h.1)] at hgo
  refine gor hL ?_; (repeat (clear hL; intro t hL; refine gor hL ?_))
  refine pcond_b rfl (fun c11 => ?_) (fun c11 => ?_)
  · have c11' : x.op = 11 := by simpa using c11
    simp +decide only [actV, c11', if_true, if_false] at hgo
    refine gor hL ?_; (repeat (clear hL; intro t hL; refine gor hL ?_))
    refine msumA hL hR ?_
    refine gor hL ?_; (repeat (clear hL; intro t hL; refine gor hL ?_))
    refine riaA hda.1 ?_
    refine gor hL ?_; (repeat (clear hL; intro t hL; refine gor hL ?_))
    refine mstoreA hL hR hda.1 ?_
    clear hL; intro t hL
    refine gor hL ?_; (repeat (clear hL; intro t hL; refine gor hL ?_))
    exact ⟨g, by omega, i + 1, _, false, 0, 0, by omega, by first | rfl | simp +decide only [pvc, pvi, pvt], hL.pk, hset _, by omega, fun _ => ⟨rfl, rfl, hgo⟩, fun h => by cases h⟩
  have n11 : ¬ x.op = 11 := by simpa using c11
  simp only [actV, if_neg n1, if_neg n2, if_neg n3, if_neg n4, if_neg n5, if_neg n6, if_neg n7, if_neg n11] at hgo
  rw [set_self] at hgo
  refine gor hL ?_; (repeat (clear hL; intro t hL; refine gor hL ?_))
  exact ⟨g, by omega, i + 1, _, false, 0, 0, by omega, by first | rfl | simp +decide only [pvc, pvi, pvt], hL.pk, hR, by omega, fun _ => ⟨rfl, rfl, hgo⟩, fun h => by cases h⟩
theorem C22 (p : List Ins) (hpl : p.length < 2 ^ 40) (hp : ∀ x ∈ p, x.fit) : Pure (PCalls Try.prog GG) 22 [.d (.sl (p.map Ins.row))] (.d (.sl (p.map Ins.rrow))) := by
  have hr5 : ∀ k, ∀ r ∈ (p.take k).map Ins.rrow, r.length = 5 := fun k r hr => by obtain ⟨x, _, rfl⟩ := List.mem_map.1 hr; rfl
  intro st; refine pcalls_of k22 e22 (of_decide_eq_true rfl) ?_; dsimp only [c22]; refine pstartL ?_; intro t hL; generalize hQ : pfin _ _ = Q
  refine gor hL ?_; (repeat (clear hL; intro t hL; refine gor hL ?_))
  (apply prangeA (p.length) (by omega) (fun a z => put z (some 3) a) (fun k a t => Lay st [.vec a ((p.take k).map Ins.rrow) 5] t) ((AV.full []))); (· exact trimA); (· exact fun _ _ => rfl)
  · exact hL.full [] 5
  · intro a t hL
    rw [List.take_length] at hL
    have fa := hL.vk a
    obtain ⟨fa_r, fa_w, fa_w1, fa_c, fa_s, fa_d⟩ := id fa
    refine gor hL ?_; (repeat (clear hL; intro t hL; refine gor hL ?_))
    rw [← hQ]
    exact pfin_weak rfl fa_w hL.le
  · intro k hk a t hL
    obtain ⟨x, hx, hxm⟩ := elem_at hk
    have hxf := hp x hxm
    have fa := hL.vk a
    obtain ⟨fa_r, fa_w, fa_w1, fa_c, fa_s, fa_d⟩ := id fa
    have hr' : (p.take k).map Ins.rrow ++ [x.rrow] = (p.take (k + 1)).map Ins.rrow := by rw [take_snoc hx, List.map_append]; rfl
    refine pblock ?_
    (refine gor hL ?_; (repeat (clear hL; intro t hL; refine gor hL ?_))); (with_reducible refine po_allocL hL rfl ?_); clear hL; intro p5 t hL
    refine gor hL ?_; (repeat (clear hL; intro t hL; refine gor hL ?_))
    refine gnm ?_; rw [IntWalk.i64_in x.op (by have := hxf.op; omega), IntWalk.i64_in x.dst (by have := hxf.dst; omega), IntWalk.i64_in x.a (by have := hxf.a; omega), IntWalk.i64_in x.b (by have := hxf.b; omega), IntWalk.i64_in x.n (by have := hxf.n; omega)]
    refine gor hL ?_; (repeat (clear hL; intro t hL; refine gor hL ?_))
    refine po_appA hL (hr5 k) ?_ ?_; (· simp; omega); clear hL; intro a' t f' hL; obtain ⟨f'_r, f'_w, f'_w1, f'_c, f'_s, f'_d⟩ := id f'
    rw [show ([[Dat.int .i64 x.op, .int .i64 x.dst, .int .i64 x.a, .int .i64 x.b, .int .i64 x.n]] : List (List Dat)) = [x.rrow] from rfl, hr'] at hL
    refine gor hL ?_; (repeat (clear hL; intro t hL; refine gor hL ?_))
    exact ⟨a', hL.pk, tr2⟩
end Go.Pv
namespace Go.Pv
open Go.Proofs
set_option maxRecDepth 100000
set_option maxHeartbeats 8000000

/-- prompter/prompterlaw11.PlayPlays -/
abbrev c6_2 : PCode :=
 (.seq (.region [⟨(.some 2), (.mov (.c (.d (.bool .false)))), .none⟩])
 .ret)
abbrev c6_1 : PCode :=
 (.cond (.t 15)
  c6_2
  .skip)
abbrev c6_5 : PCode :=
 (.seq (.region [⟨(.some 2), (.mov (.c (.d (.bool .true)))), .none⟩])
 .ret)
abbrev c6_4 : PCode :=
 (.cond (.t 18)
  c6_5
  .skip)
abbrev c6_14 : PCode :=
 (.region [⟨(.some 41), (.mov (.t 5)), .none⟩,
   ⟨(.some 42), (.nilchk (.t 41)), .none⟩,
   ⟨(.some 43), (.faddr 16 (.t 42)), .none⟩,
   ⟨(.some 44), (.load .false 1 (.t 43) .false), .none⟩,
   ⟨(.some 45), (.mov (.t 8)), .none⟩,
   ⟨(.some 46), (.bin .add (.t 44) (.t 45)), .none⟩,
   ⟨(.some 47), (.nilchk (.t 41)), .none⟩,
   ⟨(.some 48), (.faddr 16 (.t 47)), .none⟩,
   ⟨.none, (.store 1 (.t 48) (.t 46)), .none⟩])
abbrev c6_13 : PCode :=
 (.cond (.t 40)
  c6_14
  .skip)
abbrev c6_17 : PCode :=
 (.region [⟨(.some 51), (.mov (.t 5)), .none⟩,
   ⟨(.some 52), (.mov (.t 7)), .none⟩,
   ⟨(.some 53), (.bin .add (.c (.d (.int .i64 8))) (.t 52)), .none⟩,
   ⟨(.some 54), (.mov (.t 8)), .none⟩,
   ⟨(.some 55), (.nilchk (.t 51)), .none⟩,
   ⟨(.some 56), (.faddr 0 (.t 55)), .none⟩,
   ⟨(.some 57), (.iaddrA 16 1 (.t 56) (.t 53)), .none⟩,
   ⟨.none, (.store 1 (.t 57) (.t 54)), .none⟩])
abbrev c6_16 : PCode :=
 (.cond (.t 50)
  c6_17
  .skip)
abbrev c6_15 : PCode :=
 (.keep [1, 3, 4, 5, 7, 8, 32, 33, 34] (.seq (.region [⟨(.some 49), (.mov (.t 7)), .none⟩,
   ⟨(.some 50), (.bin .lss (.t 49) (.c (.d (.int .i64 8)))), .none⟩])
 c6_16))
abbrev c6_12 : PCode :=
 (.keep [1, 3, 4, 5, 7, 8, 32, 33, 34] (.seq (.seq (.region [⟨(.some 39), (.mov (.t 7)), .none⟩,
   ⟨(.some 40), (.bin .lss (.t 39) (.c (.d (.int .i64 64)))), .none⟩])
 c6_13)
 c6_15))
abbrev c6_11 : PCode :=
 (.block 1 (.seq (.region [⟨(.some 36), (.mov (.t 34)), .none⟩,
   ⟨(.some 37), (.iaddr 1 (.t 32) (.t 34)), .none⟩,
   ⟨(.some 38), (.load .false 1 (.t 37) .false), .none⟩,
   ⟨(.some 7), (.mov (.t 36)), .none⟩,
   ⟨(.some 8), (.mov (.t 38)), .none⟩])
 c6_12))
abbrev c6_10 : PCode :=
 (.keep [1, 3, 4, 5, 32, 33, 34] (.block 0 (.loop (.some [34, 1, 3, 4, 5, 32, 33]) (.seq (.region [⟨(.some 35), (.bin .lss (.t 34) (.t 33)), .none⟩])
 (.seq (.cond (.t 35)
  .skip
  (.exit 0))
 (.seq c6_11
 (.region [⟨(.some 58), (.bin .add (.t 34) (.c (.d (.int .i64 1)))), .none⟩,
   ⟨(.some 34), (.mov (.t 58)), .none⟩])))))))
abbrev c6_24 : PCode :=
 (.seq (.region [⟨(.some 87), (.load .true 8 (.t 10) .false), .none⟩,
   ⟨(.some 88), (.faddr 7 (.t 1)), .none⟩,
   ⟨(.some 89), (.load .true 8 (.t 88) .false), .none⟩,
   ⟨(.some 90), (.eqAgg .false [1, 1, 1, 1, 1, 1, 1, 1] (.t 87) (.t 89)), .none⟩,
   ⟨(.some 91), (.mov (.t 90)), .none⟩,
   ⟨(.some 92), (.load .true 6 (.t 11) .false), (.some (91, .true))⟩,
   ⟨(.some 93), (.mov (.t 5)), (.some (91, .true))⟩,
   ⟨(.some 94), (.nilchk (.t 93)), (.some (91, .true))⟩,
   ⟨(.some 95), (.faddr 18 (.t 94)), (.some (91, .true))⟩,
   ⟨(.some 96), (.load .false 1 (.t 95) .false), (.some (91, .true))⟩,
   ⟨(.some 97), (.mov (.t 5)), (.some (91, .true))⟩,
   ⟨(.some 98), (.nilchk (.t 97)), (.some (91, .true))⟩,
   ⟨(.some 99), (.faddr 19 (.t 98)), (.some (91, .true))⟩,
   ⟨(.some 100), (.load .false 1 (.t 99) .false), (.some (91, .true))⟩,
   ⟨(.some 101), (.bld [(.d (.int .i64 0)), (.d (.int .i64 0)), (.d (.int .i64 0)), (.d (.flt .f64 0)), (.d (.str (bs []))), (.full [])] [(0, (1, (.t 96))), (1, (1, (.t 100)))]), (.some (91, .true))⟩,
   ⟨(.some 102), (.call0 24 [(.t 92), (.t 101)]), (.some (91, .true))⟩,
   ⟨(.some 103), (.pick (.t 91) (.t 102) (.c (.d (.bool .false)))), .none⟩,
   ⟨(.some 2), (.mov (.t 103)), .none⟩])
 .ret)
abbrev c6_23 : PCode :=
 (.cond (.t 86)
  c6_24
  .skip)
abbrev c6_31 : PCode :=
 (.seq (.region [⟨(.some 2), (.mov (.c (.d (.bool .false)))), .none⟩])
 .ret)
abbrev c6_30 : PCode :=
 (.cond (.t 127)
  c6_31
  .skip)
abbrev c6_29 : PCode :=
 (.seq (.region [⟨(.some 118), (.mov (.t 13)), .none⟩,
   ⟨(.some 119), (.iaddrA 8 1 (.t 10) (.t 118)), .none⟩,
   ⟨(.some 120), (.load .false 1 (.t 119) .false), .none⟩,
   ⟨(.some 121), (.mov (.t 5)), .none⟩,
   ⟨(.some 122), (.mov (.t 13)), .none⟩,
   ⟨(.some 123), (.nilchk (.t 121)), .none⟩,
   ⟨(.some 124), (.faddr 0 (.t 123)), .none⟩,
   ⟨(.some 125), (.iaddrA 16 1 (.t 124) (.t 122)), .none⟩,
   ⟨(.some 126), (.load .false 1 (.t 125) .false), .none⟩,
   ⟨(.some 127), (.bin .neq (.t 120) (.t 126)), .none⟩])
 c6_30)
abbrev c6_28 : PCode :=
 (.block 3 (.seq (.region [⟨(.some 117), (.mov (.t 115)), .none⟩,
   ⟨(.some 13), (.mov (.t 117)), .none⟩])
 c6_29))
abbrev c6_27 : PCode :=
 (.block 2 (.loop (.some [115, 3, 5, 10, 11, 12]) (.seq (.region [⟨(.some 116), (.bin .lss (.t 115) (.c (.d (.int .i64 8)))), .none⟩])
 (.seq (.cond (.t 116)
  .skip
  (.exit 2))
 (.seq c6_28
 (.region [⟨(.some 128), (.bin .add (.t 115) (.c (.d (.int .i64 1)))), .none⟩,
   ⟨(.some 115), (.mov (.t 128)), .none⟩]))))))
abbrev c6_32 : PCode :=
 (.seq (.region [⟨(.some 129), (.load .true 6 (.t 11) .false), .none⟩,
   ⟨(.some 130), (.load .true 4 (.t 12) .false), .none⟩,
   ⟨(.some 131), (.bld [(.d (.int .i64 0)), (.d (.int .i64 0)), (.d (.int .i64 0)), (.d (.flt .f64 0)), (.d (.str (bs []))), (.full [])] [(2, (4, (.t 130)))]), .none⟩,
   ⟨(.some 132), (.call0 24 [(.t 129), (.t 131)]), .none⟩,
   ⟨(.some 133), (.mov (.t 132)), .none⟩,
   ⟨(.some 134), (.faddr 4 (.t 3)), (.some (133, .true))⟩,
   ⟨(.some 135), (.load .true 4 (.t 134) .false), (.some (133, .true))⟩,
   ⟨(.some 136), (.faddr 2 (.t 11)), (.some (133, .true))⟩,
   ⟨(.some 137), (.load .true 4 (.t 136) .false), (.some (133, .true))⟩,
   ⟨(.some 138), (.call0 27 [(.t 135), (.t 137)]), (.some (133, .true))⟩,
   ⟨(.some 139), (.bin .eql (.t 138) (.c (.d (.int .i64 0)))), (.some (133, .true))⟩,
   ⟨(.some 140), (.pick (.t 133) (.t 139) (.c (.d (.bool .false)))), .none⟩,
   ⟨(.some 2), (.mov (.t 140)), .none⟩])
 .ret)
abbrev c6_26 : PCode :=
 (.keep [3, 5, 10, 11, 12] (.seq (.seq (.region [⟨(.some 115), (.mov (.c (.d (.int .i64 0)))), .none⟩])
 c6_27)
 c6_32))
abbrev c6_25 : PCode :=
 (.keep [3, 5, 10, 11] (.seq (.region [⟨(.some 104), (.mov (.t 5)), .none⟩,
   ⟨(.some 105), (.nilchk (.t 104)), .none⟩,
   ⟨(.some 106), (.faddr 0 (.t 105)), .none⟩,
   ⟨(.some 107), (.slcA 16 1 (.t 106) (.some (.c (.d (.int .i64 8)))) .none), .none⟩,
   ⟨(.some 108), (.bld [(.full []), (.d (.int .i64 0)), (.d (.int .i64 0))] [(0, (1, (.t 107)))]), .none⟩,
   ⟨(.some 110), (.faddr 4 (.t 3)), .none⟩,
   ⟨(.some 111), (.load .true 4 (.t 110) .false), .none⟩,
   ⟨(.some 112), (.call0 20 [(.t 111)]), .none⟩,
   ⟨(.some 109), (.box 3 (.t 108)), .none⟩,
   ⟨(.some 113), (.call0 26 [(.t 109), (.t 112)]), .none⟩,
   ⟨(.some 114), (.call0 25 [(.t 113)]), .none⟩,
   ⟨(.some 12), (.alloc [(.d (.int .i64 0)), (.d (.flt .f64 0)), (.d (.str (bs []))), (.full [])]), .none⟩,
   ⟨.none, (.store 4 (.t 12) (.t 114)), .none⟩])
 c6_26))
abbrev c6_22 : PCode :=
 (.keep [1, 3, 5, 10, 11] (.seq (.seq (.region [⟨(.some 82), (.mov (.t 5)), .none⟩,
   ⟨(.some 83), (.nilchk (.t 82)), .none⟩,
   ⟨(.some 84), (.faddr 18 (.t 83)), .none⟩,
   ⟨(.some 85), (.load .false 1 (.t 84) .false), .none⟩,
   ⟨(.some 86), (.bin .neq (.t 85) (.c (.d (.int .i64 0)))), .none⟩])
 c6_23)
 c6_25))
abbrev c6_21 : PCode :=
 (.keep [1, 3, 4, 5] (.seq (.region [⟨(.some 75), (.load .true 9 (.t 3) .false), .none⟩,
   ⟨(.some 76), (.faddr 7 (.t 1)), .none⟩,
   ⟨(.some 77), (.load .true 8 (.t 76) .false), .none⟩,
   ⟨(.some 78), (.load .true 4 (.t 4) .false), .none⟩,
   ⟨(.some 79), (.call0 13 [(.t 75), (.t 77), (.t 78)]), .none⟩,
   ⟨(.some 74), (.mov (.t 79)), .none⟩,
   ⟨(.some 80), (.ext (.t 74) 0), .none⟩,
   ⟨(.some 81), (.ext (.t 74) 1), .none⟩,
   ⟨(.some 10), (.alloc [(.d (.int .i64 0)), (.d (.int .i64 0)), (.d (.int .i64 0)), (.d (.int .i64 0)), (.d (.int .i64 0)), (.d (.int .i64 0)), (.d (.int .i64 0)), (.d (.int .i64 0))]), .none⟩,
   ⟨(.some 11), (.alloc [(.d (.int .i64 0)), (.d (.int .i64 0)), (.d (.int .i64 0)), (.d (.flt .f64 0)), (.d (.str (bs []))), (.full [])]), .none⟩,
   ⟨.none, (.store 8 (.t 10) (.t 80)), .none⟩,
   ⟨.none, (.store 6 (.t 11) (.t 81)), .none⟩])
 c6_22))
abbrev c6_20 : PCode :=
 (.keep [1, 3, 4, 5, 9] (.seq (.region [⟨(.some 69), (.mov (.t 5)), .none⟩,
   ⟨(.some 70), (.mov (.t 9)), .none⟩,
   ⟨(.some 71), (.mov (.t 9)), .none⟩,
   ⟨(.some 72), (.len (.t 71)), .none⟩,
   ⟨(.some 73), (.call0 23 [(.t 69), (.t 70), (.c (.d (.int .i64 0))), (.t 72)]), .none⟩])
 c6_21))
abbrev c6_19 : PCode :=
 (.keep [1, 3, 4, 5] (.seq (.region [⟨(.some 66), (.faddr 8 (.t 3)), .none⟩,
   ⟨(.some 67), (.load .false 1 (.t 66) .false), .none⟩,
   ⟨(.some 68), (.call0 22 [(.t 67)]), .none⟩,
   ⟨(.some 9), (.mov (.t 68)), .none⟩])
 c6_20))
abbrev c6_18 : PCode :=
 (.seq (.region [⟨(.some 59), (.mov (.t 5)), .none⟩,
   ⟨(.some 60), (.nilchk (.t 59)), .none⟩,
   ⟨(.some 61), (.faddr 0 (.t 60)), .none⟩,
   ⟨(.some 62), (.slcA 16 1 (.t 61) .none .none), .none⟩,
   ⟨(.some 63), (.faddr 7 (.t 1)), .none⟩,
   ⟨(.some 64), (.slcA 8 1 (.t 63) .none .none), .none⟩,
   ⟨(.some 65), (.copy 1 (.t 62) (.t 64)), .none⟩])
 c6_19)
abbrev c6_9 : PCode :=
 (.keep [1, 3, 4, 5, 6] (.seq (.seq (.region [⟨(.some 32), (.mov (.t 6)), .none⟩,
   ⟨(.some 33), (.len (.t 32)), .none⟩,
   ⟨(.some 34), (.mov (.c (.d (.int .i64 0)))), .none⟩])
 c6_10)
 c6_18))
abbrev c6_8 : PCode :=
 (.keep [1, 3, 4, 5] (.seq (.region [⟨(.some 26), (.faddr 0 (.t 3)), .none⟩,
   ⟨(.some 27), (.load .true 4 (.t 26) .false), .none⟩,
   ⟨(.some 28), (.callp 20 [(.t 27)]), .none⟩,
   ⟨(.some 29), (.load .true 4 (.t 4) .false), .none⟩,
   ⟨(.some 30), (.callp 21 [(.t 29)]), .none⟩,
   ⟨(.some 31), (.callp 19 [(.t 28), (.t 30)]), .none⟩,
   ⟨(.some 6), (.mov (.t 31)), .none⟩])
 c6_9))
abbrev c6_7 : PCode :=
 (.keep [1, 3, 4] (.seq (.region [⟨(.some 24), (.bld [(.d (.int .i64 0)), (.d (.int .i64 0)), (.d (.int .i64 0)), (.d (.int .i64 0)), (.d (.int .i64 0)), (.d (.int .i64 0)), (.d (.int .i64 0)), (.d (.int .i64 0)), (.d (.int .i64 0)), (.d (.int .i64 0)), (.d (.int .i64 0)), (.d (.int .i64 0)), (.d (.int .i64 0)), (.d (.int .i64 0)), (.d (.int .i64 0)), (.d (.int .i64 0)), (.d (.int .i64 0)), (.d (.bool .false)), (.d (.int .i64 0)), (.d (.int .i64 0))] []), .none⟩,
   ⟨(.some 25), (.box 20 (.t 24)), .none⟩,
   ⟨(.some 5), (.mov (.t 25)), .none⟩])
 c6_8))
abbrev c6_6 : PCode :=
 (.keep [1] (.seq (.region [⟨(.some 20), (.load .true 16 (.t 1) .false), .none⟩,
   ⟨(.some 21), (.call0 15 [(.t 20)]), .none⟩,
   ⟨(.some 19), (.mov (.t 21)), .none⟩,
   ⟨(.some 22), (.ext (.t 19) 0), .none⟩,
   ⟨(.some 23), (.ext (.t 19) 1), .none⟩,
   ⟨(.some 3), (.alloc [(.d (.int .u8 0)), (.d (.int .i64 0)), (.full []), (.full []), (.d (.int .u8 0)), (.d (.int .i64 0)), (.full []), (.full []), (.full [])]), .none⟩,
   ⟨(.some 4), (.alloc [(.d (.int .i64 0)), (.d (.flt .f64 0)), (.d (.str (bs []))), (.full [])]), .none⟩,
   ⟨.none, (.store 9 (.t 3) (.t 22)), .none⟩,
   ⟨.none, (.store 4 (.t 4) (.t 23)), .none⟩])
 c6_7))
abbrev c6_3 : PCode :=
 (.keep [1] (.seq (.seq (.region [⟨(.some 16), (.load .true 16 (.t 1) .false), .none⟩,
   ⟨(.some 17), (.call0 14 [(.t 16)]), .none⟩,
   ⟨(.some 18), (.not (.t 17)), .none⟩])
 c6_4)
 c6_6))
abbrev c6_0 : PCode :=
 (.seq (.seq (.region [⟨(.some 14), (.call0 9 []), .none⟩,
   ⟨(.some 15), (.not (.t 14)), .none⟩])
 c6_1)
 c6_3)
def c6 : PFun := ⟨
 (.seq (.region [⟨(.some 1), (.box 16 (.t 0)), .none⟩,
   ⟨(.some 2), (.mov (.c (.d (.bool .false)))), .none⟩])
 c6_0),
 1, 141, [(.tmp 2)]⟩

theorem e6 : entered Try.prog 6 = true := by kernel_rfl
theorem k6 : compFun Try.prog (fun i => if i = 7 then 1 else if i = 22 then 32 else 0) 6 = some c6.er := by kernel_rfl


theorem mcells_sm {R : List Int} {sm : Int} {ov : Bool} {e r : Int} (h : R.length = 16) (v : Int) : (mcells R sm ov e r).take 16 ++ [.d (.int .i64 v)] ++ (mcells R sm ov e r).drop (16 + 1) = mcells R v ov e r := by
  simp [mcells, List.take_append, List.drop_append, h]
theorem regk_big (S F : List Int) {k : Nat} (hk : 8 ≤ k) : regk S F k = regk S F (k + 1) := by
  unfold regk
  congr 1
  refine List.map_congr_left fun i hi => ?_
  have := List.mem_range.1 hi
  rw [if_pos (by omega), if_pos (by omega)]
theorem regk_end (S F : List Int) : regk S F F.length = reg0 S F := by
  unfold regk reg0
  congr 1
  refine List.map_congr_left fun i hi => ?_
  split
  · rfl
  · rw [List.getD_eq_getElem?_getD, List.getElem?_eq_none (by omega)]; rfl
theorem reg0_take (S F : List Int) : reg0 S F = reg0 S (F.take 64) := by
  unfold reg0
  congr 1
  refine List.map_congr_left fun i hi => ?_
  have := List.mem_range.1 hi
  rw [List.getD_eq_getElem?_getD, List.getD_eq_getElem?_getD, List.getElem?_take, if_pos (by omega)]
/-- The reference's machine, as data. -/
def mdats (R : List Int) (sm : Int) (ov : Bool) (e r : Int) : List Dat := R.map (fun n => .int .i64 n) ++ [.int .i64 sm, .bool ov, .int .i64 e, .int .i64 r]
theorem mcells_weak (R : List Int) (sm : Int) (ov : Bool) (e r : Int) : (mcells R sm ov e r).map AV.weak1 = (mdats R sm ov e r).map .d := by
  simp [mcells, mdats, AV.weak1, Function.comp_def]
theorem melt_regs {G : Glob} {s : Slots} {x : Arg} {R : List Int} {sm : Int} {ov : Bool} {e r : Int} (hx : x.ev G s = .elt ((mdats R sm ov e r).drop 0)) (hR : R.length = 16) :
    Go.Pv.ev G s (.slcA 16 1 x (some (.c (.d (.int .i64 8)))) none) = some (.d (.sl ((R.drop 8).map fun n => [.int .i64 n]))) := by
  simp only [Go.Pv.ev, hx, List.drop_zero]
  rw [if_pos ⟨trivial, by simp [mdats]; omega⟩]
  have em : (mdats R sm ov e r).take 16 = R.map (fun n => .int .i64 n) := by
    rw [mdats, List.take_append_of_le_length (by simp; omega), List.take_of_length_le (by simp; omega)]
  show some (AV.d (.sl ((((mdats R sm ov e r).take 16).drop 8).map fun c => [c]))) = _
  rw [em, ← List.map_drop, List.map_map]
  rfl
theorem mcells_e {R : List Int} (sm : Int) (ov : Bool) (e r : Int) (h : R.length = 16) : ldv false 1 ((mcells R sm ov e r).drop 18) = some (.d (.int .i64 e)) := by
  unfold ldv
  simp [mcells, h]
theorem mcells_r {R : List Int} (sm : Int) (ov : Bool) (e r : Int) (h : R.length = 16) : ldv false 1 ((mcells R sm ov e r).drop 19) = some (.d (.int .i64 r)) := by
  unfold ldv
  simp [mcells, h]
section
variable {G : Glob} {C : CallsP}
theorem merrA {st t : St} {L Z : List Item} {x : Arg} {d : Option Nat} {rest : List POper} {K : X → Prop} {s : Slots} {m : Mx} {b : Nat} {R : List Int} {sm : Int} {ov : Bool} {e r : Int} (hL : Lay st L t) (hR : R.length = 16)
    (h : pops G C rest K ⟨put s d (.d (.int .i64 e)), m⟩) (hm : m.st = t := by rfl) (hx : x.ev G s = .d (.ptr b 18) := by rfl) (hr : Rem (.box b (mcells R sm ov e r)) L Z := by (repeat (first | exact Rem.head | apply Rem.tail))) : pops G C (⟨d, .load false 1 x false, none⟩ :: rest) K ⟨s, m⟩ :=
  po_loadL hL hm hx hr (mcells_e sm ov e r hR) h
theorem mrsdA {st t : St} {L Z : List Item} {x : Arg} {d : Option Nat} {rest : List POper} {K : X → Prop} {s : Slots} {m : Mx} {b : Nat} {R : List Int} {sm : Int} {ov : Bool} {e r : Int} (hL : Lay st L t) (hR : R.length = 16)
    (h : pops G C rest K ⟨put s d (.d (.int .i64 r)), m⟩) (hm : m.st = t := by rfl) (hx : x.ev G s = .d (.ptr b 19) := by rfl) (hr : Rem (.box b (mcells R sm ov e r)) L Z := by (repeat (first | exact Rem.head | apply Rem.tail))) : pops G C (⟨d, .load false 1 x false, none⟩ :: rest) K ⟨s, m⟩ :=
  po_loadL hL hm hx hr (mcells_r sm ov e r hR) h
theorem sc_get {l : List Int} {k : Nat} (h : k < l.length) : ldv false 1 ((sc l).drop (k * 1)) = some (.d (.int .i64 (rg l k))) := by
  unfold ldv
  have hl : ((sc l).drop (k * 1)).length = l.length - k := by simp
  rw [if_neg (by omega)]
  simp only [Bool.false_eq_true, if_false, if_true]
  rw [List.head?_drop, Nat.mul_one, List.getElem?_map, List.getElem?_eq_getElem h]
  simp [rg, h]
theorem mdats_get {R : List Int} (sm : Int) (ov : Bool) (e r : Int) {k : Nat} (h : k < R.length) : ldv false 1 (((mdats R sm ov e r).drop (k * 1)).map AV.d) = some (.d (.int .i64 (rg R k))) := by
  unfold ldv
  have hl : (((mdats R sm ov e r).drop (k * 1)).map AV.d).length = R.length + 4 - k := by simp [mdats]
  rw [if_neg (by omega)]
  simp only [Bool.false_eq_true, if_false, if_true]
  rw [List.map_drop, List.head?_drop, Nat.mul_one, List.getElem?_map, mdats, List.getElem?_append_left (by simpa using h), List.getElem?_map, List.getElem?_eq_getElem h]
  simp [rg, h]
theorem rg_take {R : List Int} {k : Nat} (h : k < 8) : rg (R.take 8) k = rg R k := by
  simp [rg, List.getD_eq_getElem?_getD, List.getElem?_take, h]
end
theorem C6 (x : Sm11) (hx : x.fit) : Pure (PCalls Try.prog GG) 6 [.agg x.cs] (b2 true) := by
  have h1 := C14 x hx
  intro st; refine pcalls_of k6 e6 (of_decide_eq_true rfl) ?_; dsimp only [c6]; refine pstartL ?_; intro t hL; generalize hQ : pfin _ _ = Q
  (refine gor hL ?_; (repeat (clear hL; intro t hL; refine gor hL ?_))); refine po_boxA hL ?_; clear hL; intro p1 t hL
  refine gor hL ?_; (repeat (clear hL; intro t hL; refine gor hL ?_))
  refine po_c0 (C9) ?_
  refine gor hL ?_; (repeat (clear hL; intro t hL; refine gor hL ?_))
  refine po_c0 (h1) ?_
  cases hlt : x.light with
  | false =>
    rw [hlt] at h1
    refine gor hL ?_; (repeat (clear hL; intro t hL; refine gor hL ?_))
    rw [← hQ]
    exact pfin_pure rfl hL.le
  | true =>
    have hsm := Sm11.small hlt
    obtain ⟨tk, an, q, S, lx⟩ := x
    obtain ⟨s0, s1, s2, s3, s4, s5, s6, s7, rfl⟩ := len8 hx.S.1
    have hwT : WT 4 (Nd.typ 4 tk []) := .of_typ (by decide) hx.tk
    have hwA : WT 4 (Nd.typ 4 an []) := .of_typ (by decide) hx.an
    obtain ⟨t1, t2, t3⟩ := typ_le hx.tk
    obtain ⟨a1, a2, a3⟩ := typ_le hx.an
    have hlr : Rok lx := hx.l.1
    have vf : (buildV lx (Nd.typ 4 tk [])).fit := buildV_fit hlr t1
    have his : VT.is 4 (Nd.typ 4 tk []) (buildV lx (Nd.typ 4 tk [])) = true := by rw [← is_deep hwT 20 _ (by decide)]; exact buildV_is hlr (by decide) hwT
    have hcnt : (buildV lx (Nd.typ 4 tk [])).count < 2 ^ 39 := Nat.lt_trans (buildV_count lx (Nat.lt_of_le_of_lt (hwT.cost 20) (by decide))) (by decide)
    have hbd := C15 ⟨tk, an, q, [s0, s1, s2, s3, s4, s5, s6, s7], lx⟩ hx hlt
    obtain ⟨hpc, hpt, hpl⟩ := prgM_ok (l := q) hx.p.1
    have hpf : ∀ y ∈ prgM q, y.fit := fun y hy => (hpt y hy).fit
    have hRT := C20 4 _ hwT
    have hRA := C20 4 _ hwA
    have hRV := C21 _ vf
    have hFR := C19 4 _ _ hwT his vf (by omega)
    have hfl := Nat.lt_of_le_of_lt (flatR_len hwT his) hcnt
    have hfm : flatM 64 (Nd.typ 4 tk []) (buildV lx (Nd.typ 4 tk [])) = (flatR 4 (Nd.typ 4 tk []) (buildV lx (Nd.typ 4 tk []))).take 64 := flatM_eq 64 hwT (by decide) his
    have hRef := C22 (prgM q) (by omega) hpf
    have h3 := cPlay (Nd.typ 4 tk []) (Nd.typ 4 an []) t1 a1 a2 a3 (prgM q) hpf (by omega) [s0, s1, s2, s3, s4, s5, s6, s7] rfl hx.S.2 _ vf (fun _ => by omega)
    have hok1 : VT.checkE (Nd.typ 4 tk []) (buildV lx (Nd.typ 4 tk [])) = 0 := by rw [VT.checkE, is_deep hwT 20 _ (by decide), his]; rfl
    have hrA : Rok (flatM 64 (Nd.typ 4 tk []) (buildV lx (Nd.typ 4 tk []))) := flatM_ok vf rfl
    have hst : go (prgM q) (flatM 64 (Nd.typ 4 tk []) (buildV lx (Nd.typ 4 tk []))) ((prgM q).length + 1) 0 (prgM q).length (reg0 [s0, s1, s2, s3, s4, s5, s6, s7] (flatM 64 (Nd.typ 4 tk []) (buildV lx (Nd.typ 4 tk [])))) ≠ .stuck := go_ok hpf hpc _ _
    have hrun := fun pm => refRunC (prgM q) hpf (by omega) (flatM 64 (Nd.typ 4 tk []) (buildV lx (Nd.typ 4 tk []))) pm ((prgM q).length + 1) 0 (prgM q).length (reg0 [s0, s1, s2, s3, s4, s5, s6, s7] (flatM 64 (Nd.typ 4 tk []) (buildV lx (Nd.typ 4 tk [])))) _ rfl hst (reg0_len rfl _) (by omega) (by omega)
    have hcsA : 0 + cost 4 (Nd.typ 4 an []) < 2 ^ 60 := Nat.lt_of_le_of_lt (by rw [Nat.zero_add]; exact hwA.cost 4) (by decide)
    have hRB := fun (R : List Int) (hl : R.length = 8) (hr : Rok R) pm => refBuildC R (by omega) hr pm 4 _ 0 0 hwA (Nat.le_refl _) hcsA
    have hbE : ∀ R : List Int, (buildM R 4 (Nd.typ 4 an []) 0 0).v = buildV R (Nd.typ 4 an []) := fun R => by rw [← build_deep R hwA 20 0 0 (by decide)]; rfl
    have hchk : ∀ R, Rok R → VT.checkE (Nd.typ 4 an []) (buildV R (Nd.typ 4 an [])) = 0 := fun R hR => by rw [VT.checkE, if_pos (buildV_is hR (by decide) hwA)]
    have hrk : ∀ b R, go (prgM q) (flatM 64 (Nd.typ 4 tk []) (buildV lx (Nd.typ 4 tk []))) ((prgM q).length + 1) 0 (prgM q).length (reg0 [s0, s1, s2, s3, s4, s5, s6, s7] (flatM 64 (Nd.typ 4 tk []) (buildV lx (Nd.typ 4 tk [])))) = .done b R → Rok R := fun b R h => go_rok hpf _ _ _ _ _ _ (reg0_ok hx.S.2 hrA) h
    have hpd := fun e r h => playF_fail (S := [s0, s1, s2, s3, s4, s5, s6, s7]) (tk := Nd.typ 4 tk []) (an := Nd.typ 4 an []) (p := prgM q) (e := e) (r := r) hpc hok1 rfl h
    have hpo := fun b R h => playF_done (S := [s0, s1, s2, s3, s4, s5, s6, s7]) (tk := Nd.typ 4 tk []) (an := Nd.typ 4 an []) (p := prgM q) (b := b) (R := R) hpc hok1 rfl h
    have hfe := fun e r h => go_fail (p := prgM q) (args := flatM 64 (Nd.typ 4 tk []) (buildV lx (Nd.typ 4 tk []))) ((prgM q).length + 1) 0 (prgM q).length (reg0 [s0, s1, s2, s3, s4, s5, s6, s7] (flatM 64 (Nd.typ 4 tk []) (buildV lx (Nd.typ 4 tk [])))) e r h
    simp only [Sm11.T, Sm11.A, Sm11.v] at hbd
    generalize hT0 : Nd.typ 4 tk [] = T at *
    generalize hA0 : Nd.typ 4 an [] = A at *
    generalize buildV lx T = V at *
    generalize prgM q = pp at *
    generalize flatR 4 T V = F at *
    rw [hfm] at hrun hpd hpo hfe hst hrk
    generalize hO : go pp (F.take 64) (pp.length + 1) 0 pp.length (reg0 [s0, s1, s2, s3, s4, s5, s6, s7] (F.take 64)) = o at *
    generalize playF T A pp [s0, s1, s2, s3, s4, s5, s6, s7] V = X at *
    simp only [VT.av_eq, KT.av_eq, KT.rav_eq] at hbd h3 hRT hRA hRV hFR
    refine gor hL ?_; (repeat (clear hL; intro t hL; refine gor hL ?_))
    refine po_c0 (hbd) ?_
    refine gor hL ?_; (repeat (clear hL; intro t hL; refine gor hL ?_))
    (refine gor hL ?_; (repeat (clear hL; intro t hL; refine gor hL ?_))); (with_reducible refine po_allocL hL rfl ?_); clear hL; intro p3 t hL
    (refine gor hL ?_; (repeat (clear hL; intro t hL; refine gor hL ?_))); (with_reducible refine po_allocL hL rfl ?_); clear hL; intro p4 t hL
    refine gor hL ?_; (repeat (clear hL; intro t hL; refine gor hL ?_))
    (refine gor hL ?_; (repeat (clear hL; intro t hL; refine gor hL ?_))); refine po_boxA hL ?_; clear hL; intro pm t hL
    replace hL : Lay st [.box pm (mcells (regk [0, 0, 0, 0, 0, 0, 0, 0] F 0) (sumOf (F.take (min 0 64))) false 0 0), .box p4 [.d (.int .i64 V.n), .d (.flt .f64 V.f), .d (.str V.s), .d (.sl (V.of.map VT.row))], .box p3 [.d (.int .u8 T.kind), .d (.int .i64 T.most), .d (.sl (T.names.map fun s => [.str s])), .d (.sl (T.of.map KT.row)), .d (.int .u8 A.kind), .d (.int .i64 A.most), .d (.sl (A.names.map fun s => [.str s])), .d (.sl (A.of.map KT.row)), .d (.sl (pp.map Ins.row))], .box p1 (Sm11.cs ⟨tk, an, q, [s0, s1, s2, s3, s4, s5, s6, s7], lx⟩)] t := hL
    refine gor hL ?_; (repeat (clear hL; intro t hL; refine gor hL ?_))
    refine po_cp (hRT) ?_
    refine gor hL ?_; (repeat (clear hL; intro t hL; refine gor hL ?_))
    refine po_cp (hRV) ?_
    refine gor hL ?_; (repeat (clear hL; intro t hL; refine gor hL ?_))
    refine po_cp (hFR) ?_
    refine gor hL ?_; (repeat (clear hL; intro t hL; refine gor hL ?_))
    (apply prangeJ (F.length) (by omega) (fun k t => Lay st [.box pm (mcells (regk [0, 0, 0, 0, 0, 0, 0, 0] F k) (sumOf (F.take (min k 64))) false 0 0), .box p4 [.d (.int .i64 V.n), .d (.flt .f64 V.f), .d (.str V.s), .d (.sl (V.of.map VT.row))], .box p3 [.d (.int .u8 T.kind), .d (.int .i64 T.most), .d (.sl (T.names.map fun s => [.str s])), .d (.sl (T.of.map KT.row)), .d (.int .u8 A.kind), .d (.int .i64 A.most), .d (.sl (A.names.map fun s => [.str s])), .d (.sl (A.of.map KT.row)), .d (.sl (pp.map Ins.row))], .box p1 (Sm11.cs ⟨tk, an, q, [s0, s1, s2, s3, s4, s5, s6, s7], lx⟩)] t)); (· exact trimA); (· exact fun _ => rfl)
    · exact hL.pk
    rotate_left
    · intro k hk t hL
      obtain ⟨y, hy, _⟩ := elem_at hk
      have hkl := regk_len (S := [0, 0, 0, 0, 0, 0, 0, 0]) rfl F k
      have hyd : F.getD k 0 = y := by rw [List.getD_eq_getElem?_getD, hy]; rfl
      refine pblock ?_
      refine gor hL ?_; (repeat (clear hL; intro t hL; refine gor hL ?_))
      refine pjoin (fun s u => s = put (put (put (put (put (put (put (put (put (fun _ => .undef) (some 34) (i64 k)) (some 33) (i64 F.length)) (some 32) (.d (i64s F))) (some 8) (.d (.int .i64 y))) (some 7) (i64 k)) (some 5) (ptrAt pm)) (some 4) (ptrAt p4)) (some 3) (ptrAt p3)) (some 1) (ptrAt p1) ∧ Lay st [.box pm (mcells (regk [0, 0, 0, 0, 0, 0, 0, 0] F k) (sumOf (F.take (min (k + 1) 64))) false 0 0), .box p4 [.d (.int .i64 V.n), .d (.flt .f64 V.f), .d (.str V.s), .d (.sl (V.of.map VT.row))], .box p3 [.d (.int .u8 T.kind), .d (.int .i64 T.most), .d (.sl (T.names.map fun s => [.str s])), .d (.sl (T.of.map KT.row)), .d (.int .u8 A.kind), .d (.int .i64 A.most), .d (.sl (A.names.map fun s => [.str s])), .d (.sl (A.of.map KT.row)), .d (.sl (pp.map Ins.row))], .box p1 (Sm11.cs ⟨tk, an, q, [s0, s1, s2, s3, s4, s5, s6, s7], lx⟩)] u) ?_ ?_
      · refine gor hL ?_; (repeat (clear hL; intro t hL; refine gor hL ?_))
        refine pcond_b rfl (fun h64 => ?_) (fun h64 => ?_)
        · have h64' : k < 64 := by simp at h64; omega
          refine gor hL ?_; (repeat (clear hL; intro t hL; refine gor hL ?_))
          rw [mcells_sm hkl] at hL
          rw [Nat.min_eq_left (by omega), ← sum_snoc, ← take_snoc hy] at hL
          refine gor hL ?_; (repeat (clear hL; intro t hL; refine gor hL ?_))
          exact ⟨by first | rfl | simp +decide only [pvc, pvi, pvt], by rw [Nat.min_eq_left (by omega)]; exact hL.pk⟩
        · have h64' : ¬ k < 64 := by simp at h64; omega
          refine gor hL ?_; (repeat (clear hL; intro t hL; refine gor hL ?_))
          exact ⟨by first | rfl | simp +decide only [pvc, pvi, pvt], by rw [Nat.min_eq_right (show 64 ≤ k + 1 by omega)]; rw [Nat.min_eq_right (show 64 ≤ k by omega)] at hL; exact hL.pk⟩
      clear hL
      rintro s t ⟨rfl, hL⟩
      refine gor hL ?_; (repeat (clear hL; intro t hL; refine gor hL ?_))
      refine pcond_b rfl (fun h8 => ?_) (fun h8 => ?_)
      · have h8' : k < 8 := by simp at h8; omega
        refine gor hL ?_; (repeat (clear hL; intro t hL; refine gor hL ?_))
        refine gnm ?_; rw [show IntKind.i64.wrap (8 + (k : Int)) = ((8 + k : Nat) : Int) from (IntWalk.i64_in _ (by omega)).trans (by omega)]
        refine riaA (n := ((8 + k : Nat) : Int)) (by omega) ?_
        refine gor hL ?_; (repeat (clear hL; intro t hL; refine gor hL ?_))
        refine mstoreA hL hkl (k := ((8 + k : Nat) : Int)) (by omega) ?_
        clear hL; intro t hL
        rw [Int.toNat_natCast, regk_set rfl h8' hyd] at hL
        refine gor hL ?_; (repeat (clear hL; intro t hL; refine gor hL ?_))
        exact ⟨hL.pk, tr2⟩
      · have h8' : ¬ k < 8 := by simp at h8; omega
        rw [regk_big _ _ (show 8 ≤ k by omega)] at hL
        refine gor hL ?_; (repeat (clear hL; intro t hL; refine gor hL ?_))
        exact ⟨hL.pk, tr2⟩
    intro t hL
    rw [regk_end] at hL
    refine gor hL ?_; (repeat (clear hL; intro t hL; refine gor hL ?_))
    refine po_copyL (o := 0) (n := 16) (cap := 16) (n' := 8) (v := .bsl p1 7 8 8) hL rfl rfl (by repeat (first | exact Rem.head | apply Rem.tail)) rfl rfl (cs := sc [s0, s1, s2, s3, s4, s5, s6, s7]) (out := mcells (reg0 [s0, s1, s2, s3, s4, s5, s6, s7] (F.take 64)) (sumOf (F.take 64)) false 0 0) (by show (t.box p1).map _ = _; rw [hL.bk]; rfl) ⟨rfl, rfl⟩ (of_decide_eq_true rfl) (fun r h => by cases h) ?_ ?_
    · rw [← reg0_take]
      by_cases hF : F.length ≤ 64
      · rw [Nat.min_eq_left hF, List.take_of_length_le (Nat.le_refl _), List.take_of_length_le hF]; rfl
      · rw [Nat.min_eq_right (by omega)]; rfl
    clear hL; intro t hL
    refine gor hL ?_; (repeat (clear hL; intro t hL; refine gor hL ?_))
    refine po_c0 (hRef) ?_
    refine gor hL ?_; (repeat (clear hL; intro t hL; refine gor hL ?_))
    refine po_callK hL (hrun pm) ?_
    clear hL
    rintro ⟨R2, ov2, e2, r2, ok2, len2⟩ t hL
    simp only at hL
    refine gor hL ?_; (repeat (clear hL; intro t hL; refine gor hL ?_))
    cases o with
    | stuck => exact ok2.elim
    | fail e r =>
      obtain ⟨rfl, rfl, rfl⟩ := ok2
      rw [hpd e2 r2 rfl] at h3
      have he : (e2 != 0) = true := by rcases hfe e2 r2 rfl with rfl | rfl <;> rfl
      have hS := C24 e2 r2 e2 r2 .zero .zero zero_fit
      rw [VT.same_refl, beq_self_eq_true, beq_self_eq_true] at hS
      refine po_c0 (h3) ?_
      refine gor hL ?_; (repeat (clear hL; intro t hL; refine gor hL ?_))
      (refine gor hL ?_; (repeat (clear hL; intro t hL; refine gor hL ?_))); (with_reducible refine po_allocL hL rfl ?_); clear hL; intro p10 t hL
      (refine gor hL ?_; (repeat (clear hL; intro t hL; refine gor hL ?_))); (with_reducible refine po_allocL hL rfl ?_); clear hL; intro p11 t hL
      refine gor hL ?_; (repeat (clear hL; intro t hL; refine gor hL ?_))
      refine merrA hL len2 ?_
      refine gor hL ?_; (repeat (clear hL; intro t hL; refine gor hL ?_))
      refine gnm ?_; rw [he]
      refine gor hL ?_; (repeat (clear hL; intro t hL; refine gor hL ?_))
      refine gnm ?_
      simp only [List.getD_cons_zero, List.getD_cons_succ, beq_self_eq_true, Bool.and_self]
      refine gor hL ?_; (repeat (clear hL; intro t hL; refine gor hL ?_))
      refine merrA hL len2 ?_
      refine gor hL ?_; (repeat (clear hL; intro t hL; refine gor hL ?_))
      refine mrsdA hL len2 ?_
      refine gor hL ?_; (repeat (clear hL; intro t hL; refine gor hL ?_))
      refine po_c0 (hS) ?_
      refine gor hL ?_; (repeat (clear hL; intro t hL; refine gor hL ?_))
      rw [← hQ]
      exact pfin_pure rfl hL.le
    | done b R =>
      obtain ⟨rfl, rfl, rfl, rfl⟩ := ok2
      have hRk := hrk b R2 rfl
      have hR8 : Rok (R2.drop 8) := fun x hx => hRk x (List.mem_of_mem_drop hx)
      have hl8 : (R2.drop 8).length = 8 := by rw [List.length_drop, len2]
      have hc0 := hchk (R2.drop 8) hR8
      rw [hpo b R2 rfl hc0] at h3
      have hB := hRB (R2.drop 8) hl8 hR8
      have hb' := hbE (R2.drop 8)
      have wf : (buildV (R2.drop 8) A).fit := buildV_fit hR8 a1
      have hOf := C25 _ wf
      have hS := C24 0 0 0 0 (buildV (R2.drop 8) A) (buildV (R2.drop 8) A) wf
      have hCk := C27 A _ a1 wf
      rw [hc0] at hCk
      rw [VT.same_refl] at hS
      simp only [hb'] at hB
      generalize buildV (R2.drop 8) A = W at *
      generalize buildM (R2.drop 8) 4 A 0 0 = BMM at *
      simp only [VT.av_eq, KT.av_eq, KT.rav_eq] at hB hOf hCk
      have ht8 : (R2.take 8).length = 8 := by rw [List.length_take, len2]; rfl
      refine pjoinO (fun s' u => ∃ p10 p11, s' = put (put (put (put (put (fun _ => .undef) (some 11) (ptrAt p11)) (some 10) (ptrAt p10)) (some 5) (ptrAt pm)) (some 3) (ptrAt p3)) (some 1) (ptrAt p1) ∧ Lay st [.box p11 [.d (.int .i64 0), .d (.int .i64 0), .d (.int .i64 W.n), .d (.flt .f64 W.f), .d (.str W.s), .d (.sl (W.of.map VT.row))], .box p10 (sc (R2.take 8)), .box pm (mcells R2 (sumOf (F.take 64)) (!b) 0 0), .box p3 [.d (.int .u8 T.kind), .d (.int .i64 T.most), .d (.sl (T.names.map fun s => [.str s])), .d (.sl (T.of.map KT.row)), .d (.int .u8 A.kind), .d (.int .i64 A.most), .d (.sl (A.names.map fun s => [.str s])), .d (.sl (A.of.map KT.row)), .d (.sl (pp.map Ins.row))], .box p1 (Sm11.cs ⟨tk, an, q, [s0, s1, s2, s3, s4, s5, s6, s7], lx⟩)] u) ?_ ?_
      · obtain ⟨u0, u1, u2, u3, u4, u5, u6, u7, hu⟩ := len8 ht8
        rw [hu] at h3 ⊢
        refine po_c0 (h3) ?_
        refine gor hL ?_; (repeat (clear hL; intro t hL; refine gor hL ?_))
        (refine gor hL ?_; (repeat (clear hL; intro t hL; refine gor hL ?_))); (with_reducible refine po_allocL hL rfl ?_); clear hL; intro p10 t hL
        (refine gor hL ?_; (repeat (clear hL; intro t hL; refine gor hL ?_))); (with_reducible refine po_allocL hL rfl ?_); clear hL; intro p11 t hL
        refine gor hL ?_; (repeat (clear hL; intro t hL; refine gor hL ?_))
        exact ⟨_, _, .refl _ _, p10, p11, tr2, hL.pk⟩
      clear hL
      rintro s' t ⟨p10, p11, rfl, hL⟩
      refine pjoinF (fun s u => s = put (put (put (put (fun _ => .undef) (some 11) (ptrAt p11)) (some 10) (ptrAt p10)) (some 5) (.elt (mdats R2 (sumOf (F.take 64)) (!b) 0 0))) (some 3) (ptrAt p3) ∧ Lay st [.box p11 [.d (.int .i64 0), .d (.int .i64 0), .d (.int .i64 W.n), .d (.flt .f64 W.f), .d (.str W.s), .d (.sl (W.of.map VT.row))], .box p10 (sc (R2.take 8)), .box p3 [.d (.int .u8 T.kind), .d (.int .i64 T.most), .d (.sl (T.names.map fun s => [.str s])), .d (.sl (T.of.map KT.row)), .d (.int .u8 A.kind), .d (.int .i64 A.most), .d (.sl (A.names.map fun s => [.str s])), .d (.sl (A.of.map KT.row)), .d (.sl (pp.map Ins.row))]] u) ?_ ?_
      · refine gor hL ?_; (repeat (clear hL; intro t hL; refine gor hL ?_))
        refine merrA hL len2 ?_
        refine gor hL ?_; (repeat (clear hL; intro t hL; refine gor hL ?_))
        have hLm := hL.rem (x := .box pm (mcells R2 (sumOf (F.take 64)) (!b) 0 0)) (by repeat (first | exact Rem.head | apply Rem.tail))
        have n3 : p3 ≠ pm := hLm.neq (by repeat (first | exact Rem.head | apply Rem.tail))
        have n10 : p10 ≠ pm := hLm.neq (by repeat (first | exact Rem.head | apply Rem.tail))
        have n11 : p11 ≠ pm := hLm.neq (by repeat (first | exact Rem.head | apply Rem.tail))
        obtain ⟨t2, hf, hL2⟩ := hLm.elt (mcells_weak R2 (sumOf (F.take 64)) (!b) 0 0)
        refine ⟨_, t2, hf _, ?_, hL2.pick (by (repeat (first | (with_reducible exact Pick.nil) | ((with_reducible apply Pick.cons); · (repeat (first | exact Rem.head | apply Rem.tail))))))⟩
        refine Eq.trans (congrArg (a₂ := put (put (put (put (fun _ => .undef) (some 11) (ptrAt p11)) (some 10) (ptrAt p10)) (some 5) (ptrAt pm)) (some 3) (ptrAt p3)) (fun (z : Slots) => fun i => AV.elt1 pm (mdats R2 (sumOf (F.take 64)) (!b) 0 0) (z i)) (by first | exact trimA | simp +decide only [pvc, pvi, pvt])) ?_
        simp only [elt_put, elt_undef, elt_hit]
        rw [elt_miss _ n3, elt_miss _ n10, elt_miss _ n11]
      clear hL
      rintro s t ⟨rfl, hL⟩
      refine gor hL ?_; (repeat (clear hL; intro t hL; refine gor hL ?_))
      refine po rfl (melt_regs (R := R2) (sm := sumOf (F.take 64)) (ov := !b) (e := 0) (r := 0) rfl len2) ?_
      refine gor hL ?_; (repeat (clear hL; intro t hL; refine gor hL ?_))
      refine po_c0 (hRA) ?_
      refine gor hL ?_; (repeat (clear hL; intro t hL; refine gor hL ?_))
      (refine gor hL ?_; (repeat (clear hL; intro t hL; refine gor hL ?_))); refine po_boxA hL ?_; clear hL; intro p109 t hL
      refine gor hL ?_; (repeat (clear hL; intro t hL; refine gor hL ?_))
      refine po_callK hL (hB p109) ?_; clear hL; intro _ t hL
      refine gor hL ?_; (repeat (clear hL; intro t hL; refine gor hL ?_))
      refine po_c0 (hOf) ?_
      refine gor hL ?_; (repeat (clear hL; intro t hL; refine gor hL ?_))
      (refine gor hL ?_; (repeat (clear hL; intro t hL; refine gor hL ?_))); (with_reducible refine po_allocL hL rfl ?_); clear hL; intro p12 t hL
      refine gor hL ?_; (repeat (clear hL; intro t hL; refine gor hL ?_))
      (apply prangeJ (8) (by omega) (fun _ t => Lay st [.box p12 [.d (.int .i64 W.n), .d (.flt .f64 W.f), .d (.str W.s), .d (.sl (W.of.map VT.row))], .box p11 [.d (.int .i64 0), .d (.int .i64 0), .d (.int .i64 W.n), .d (.flt .f64 W.f), .d (.str W.s), .d (.sl (W.of.map VT.row))], .box p10 (sc (R2.take 8)), .box p3 [.d (.int .u8 T.kind), .d (.int .i64 T.most), .d (.sl (T.names.map fun s => [.str s])), .d (.sl (T.of.map KT.row)), .d (.int .u8 A.kind), .d (.int .i64 A.most), .d (.sl (A.names.map fun s => [.str s])), .d (.sl (A.of.map KT.row)), .d (.sl (pp.map Ins.row))]] t)); (· exact trimA); (· exact fun _ => rfl)
      · exact hL.pk
      · intro t hL
        refine gor hL ?_; (repeat (clear hL; intro t hL; refine gor hL ?_))
        refine po_c0 (hS) ?_
        refine gor hL ?_; (repeat (clear hL; intro t hL; refine gor hL ?_))
        refine po_c0 (hCk) ?_
        refine gor hL ?_; (repeat (clear hL; intro t hL; refine gor hL ?_))
        rw [← hQ]
        exact pfin_pure rfl hL.le
      · intro k hk t hL
        refine pblock ?_
        refine gor hL ?_; (repeat (clear hL; intro t hL; refine gor hL ?_))
        refine riaA (n := (k : Int)) (by omega) ?_
        refine po_loadL hL rfl (o := k * 1) rfl (by repeat (first | exact Rem.head | apply Rem.tail)) (sc_get (by omega)) ?_
        rw [rg_take hk]
        refine gor hL ?_; (repeat (clear hL; intro t hL; refine gor hL ?_))
        refine po rfl (show Go.Pv.ev _ _ _ = some (.elt ((mdats R2 (sumOf (F.take 64)) (!b) 0 0).drop (k * 1))) from ?_) ?_
        · show (if (0 : Int) ≤ (k : Int) ∧ (k : Int) < ((16 : Nat) : Int) then some (AV.elt (((mdats R2 (sumOf (F.take 64)) (!b) 0 0).drop 0).drop ((k : Int).toNat * 1))) else none) = _
          rw [if_pos (by omega)]
          rfl
        refine po_loadE rfl (mdats_get _ _ _ _ (by omega)) ?_
        refine gor hL ?_; (repeat (clear hL; intro t hL; refine gor hL ?_))
        exact ⟨hL.pk, tr2⟩
end Go.Pv
