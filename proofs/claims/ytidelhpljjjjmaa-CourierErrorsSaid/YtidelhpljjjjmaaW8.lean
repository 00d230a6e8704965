/- Functions of the program, by value. No condition. -/
import Derived.Test.YtidelhpljjjjmaaW7
namespace Go.Pv
open Go.Proofs
set_option maxRecDepth 100000
set_option maxHeartbeats 8000000

/-- prompter/courier.take -/
abbrev c53_2 : PCode :=
 (.region [⟨(.some 22), (.mov (.t 0)), .none⟩,
   ⟨(.some 23), (.call0 68 [(.t 22), (.c (.d (.int .i64 5)))]), .none⟩])
abbrev c53_1 : PCode :=
 (.cond (.t 21)
  c53_2
  .skip)
abbrev c53_5 : PCode :=
 (.seq (.region [⟨(.some 27), (.bld [(.d (.int .i64 0)), (.d (.flt .f64 0)), (.d (.str (bs []))), (.full [])] []), .none⟩,
   ⟨.none, (.store 4 (.t 6) (.t 27)), .none⟩])
 .ret)
abbrev c53_4 : PCode :=
 (.cond (.t 26)
  c53_5
  .skip)
abbrev c53_10 : PCode :=
 (.region [⟨(.some 32), (.mov (.t 0)), .none⟩,
   ⟨(.some 33), (.call0 70 [(.t 32), (.c (.d (.int .i64 1)))]), .none⟩,
   ⟨(.some 34), (.faddr 0 (.t 7)), .none⟩,
   ⟨.none, (.store 1 (.t 34) (.t 33)), .none⟩])
abbrev c53_13 : PCode :=
 (.region [⟨(.some 37), (.mov (.t 0)), .none⟩,
   ⟨(.some 38), (.call0 71 [(.t 37)]), .none⟩,
   ⟨(.some 39), (.cvt .i64 (.t 38)), .none⟩,
   ⟨(.some 40), (.faddr 0 (.t 7)), .none⟩,
   ⟨.none, (.store 1 (.t 40) (.t 39)), .none⟩])
abbrev c53_16 : PCode :=
 (.region [⟨(.some 43), (.mov (.t 0)), .none⟩,
   ⟨(.some 44), (.faddr 2 (.t 4)), .none⟩,
   ⟨(.some 45), (.load .false 1 (.t 44) .false), .none⟩,
   ⟨(.some 46), (.len (.t 45)), .none⟩,
   ⟨(.some 47), (.bin .sub (.t 46) (.c (.d (.int .i64 1)))), .none⟩,
   ⟨(.some 48), (.call0 70 [(.t 43), (.t 47)]), .none⟩,
   ⟨(.some 49), (.faddr 0 (.t 7)), .none⟩,
   ⟨.none, (.store 1 (.t 49) (.t 48)), .none⟩])
abbrev c53_19 : PCode :=
 (.region [⟨(.some 52), (.mov (.t 0)), .none⟩,
   ⟨(.some 53), (.call0 72 [(.t 52)]), .none⟩,
   ⟨(.some 54), (.cvt .i32 (.t 53)), .none⟩,
   ⟨(.some 55), (.cvt .i64 (.t 54)), .none⟩,
   ⟨(.some 56), (.faddr 0 (.t 7)), .none⟩,
   ⟨.none, (.store 1 (.t 56) (.t 55)), .none⟩])
abbrev c53_25 : PCode :=
 (.region [⟨(.some 67), (.mov (.t 0)), .none⟩,
   ⟨(.some 68), (.call0 68 [(.t 67), (.c (.d (.int .i64 4)))]), .none⟩])
abbrev c53_24 : PCode :=
 (.cond (.t 66)
  c53_25
  .skip)
abbrev c53_26 : PCode :=
 (.region [⟨(.some 69), (.mov (.t 8)), .none⟩,
   ⟨(.some 70), (.faddr 1 (.t 7)), .none⟩,
   ⟨.none, (.store 1 (.t 70) (.t 69)), .none⟩])
abbrev c53_23 : PCode :=
 (.keep [0, 6, 7, 8, 9] (.seq (.seq (.region [⟨(.some 65), (.mov (.t 9)), .none⟩,
   ⟨(.some 66), (.not (.t 65)), .none⟩])
 c53_24)
 c53_26))
abbrev c53_22 : PCode :=
 (.seq (.region [⟨(.some 60), (.mov (.t 0)), .none⟩,
   ⟨(.some 61), (.call0 74 [(.t 60)]), .none⟩,
   ⟨(.some 62), (.call0 73 [(.t 61)]), .none⟩,
   ⟨(.some 59), (.mov (.t 62)), .none⟩,
   ⟨(.some 63), (.ext (.t 59) 0), .none⟩,
   ⟨(.some 64), (.ext (.t 59) 1), .none⟩,
   ⟨(.some 8), (.mov (.t 63)), .none⟩,
   ⟨(.some 9), (.mov (.t 64)), .none⟩])
 c53_23)
abbrev c53_29 : PCode :=
 (.region [⟨(.some 73), (.mov (.t 0)), .none⟩,
   ⟨(.some 74), (.faddr 1 (.t 4)), .none⟩,
   ⟨(.some 75), (.load .false 1 (.t 74) .false), .none⟩,
   ⟨(.some 76), (.call0 75 [(.t 73), (.t 75)]), .none⟩,
   ⟨(.some 77), (.faddr 2 (.t 7)), .none⟩,
   ⟨.none, (.store 1 (.t 77) (.t 76)), .none⟩])
abbrev c53_35 : PCode :=
 (.region [⟨(.some 88), (.mov (.t 0)), .none⟩,
   ⟨(.some 89), (.call0 68 [(.t 88), (.c (.d (.int .i64 5)))]), .none⟩])
abbrev c53_34 : PCode :=
 (.cond (.t 87)
  c53_35
  .skip)
abbrev c53_39 : PCode :=
 (.exit 1)
abbrev c53_38 : PCode :=
 (.cond (.t 97)
  .skip
  c53_39)
abbrev c53_41 : PCode :=
 (.region [⟨(.some 98), (.mov (.t 11)), .none⟩,
   ⟨(.some 99), (.bin .add (.t 98) (.c (.d (.int .i64 1)))), .none⟩,
   ⟨(.some 11), (.mov (.t 99)), .none⟩])
abbrev c53_40 : PCode :=
 (.seq (.block 2 (.region [⟨(.some 100), (.faddr 3 (.t 7)), .none⟩,
   ⟨(.some 101), (.load .false 1 (.t 100) .true), .none⟩,
   ⟨(.some 102), (.mov (.t 0)), .none⟩,
   ⟨(.some 103), (.faddr 3 (.t 4)), .none⟩,
   ⟨(.some 104), (.load .false 1 (.t 103) .true), .none⟩,
   ⟨(.some 105), (.iaddr 4 (.t 104) (.c (.d (.int .i64 0)))), .none⟩,
   ⟨(.some 106), (.load .true 4 (.t 105) .true), .none⟩,
   ⟨(.some 107), (.mov (.t 2)), .none⟩,
   ⟨(.some 108), (.bin .sub (.t 107) (.c (.d (.int .i64 1)))), .none⟩,
   ⟨(.some 109), (.call 53 [(.t 102), (.t 106), (.t 108)]), .none⟩,
   ⟨(.some 110), (.bsl 4 [(.t 109)]), .none⟩,
   ⟨(.some 111), (.app 4 56 (.t 101) (.t 110)), .none⟩,
   ⟨(.some 112), (.faddr 3 (.t 7)), .none⟩,
   ⟨.none, (.storeo 1 (.t 112) (.t 111)), .none⟩]))
 c53_41)
abbrev c53_37 : PCode :=
 (.block 1 (.loop (.some [11, 0, 2, 4, 6, 7, 10]) (.seq (.seq (.region [⟨(.some 90), (.mov (.t 11)), .none⟩,
   ⟨(.some 91), (.mov (.t 10)), .none⟩,
   ⟨(.some 92), (.bin .lss (.t 90) (.t 91)), .none⟩,
   ⟨(.some 93), (.mov (.t 92)), .none⟩,
   ⟨(.some 94), (.mov (.t 0)), (.some (93, .true))⟩,
   ⟨(.some 95), (.call0 69 [(.t 94)]), (.some (93, .true))⟩,
   ⟨(.some 96), (.bin .eql (.t 95) (.c (.d (.int .i64 0)))), (.some (93, .true))⟩,
   ⟨(.some 97), (.pick (.t 93) (.t 96) (.c (.d (.bool .false)))), .none⟩])
 c53_38)
 c53_40)))
abbrev c53_36 : PCode :=
 (.keep [0, 2, 4, 6, 7, 10] (.seq (.region [⟨(.some 11), (.mov (.c (.d (.int .i64 0)))), .none⟩])
 c53_37))
abbrev c53_33 : PCode :=
 (.keep [0, 2, 4, 6, 7, 10] (.seq (.seq (.region [⟨(.some 84), (.faddr 3 (.t 4)), .none⟩,
   ⟨(.some 85), (.load .false 1 (.t 84) .false), .none⟩,
   ⟨(.some 86), (.len (.t 85)), .none⟩,
   ⟨(.some 87), (.bin .neq (.t 86) (.c (.d (.int .i64 1)))), .none⟩])
 c53_34)
 c53_36))
abbrev c53_32 : PCode :=
 (.seq (.region [⟨(.some 80), (.mov (.t 0)), .none⟩,
   ⟨(.some 81), (.faddr 1 (.t 4)), .none⟩,
   ⟨(.some 82), (.load .false 1 (.t 81) .false), .none⟩,
   ⟨(.some 83), (.call0 70 [(.t 80), (.t 82)]), .none⟩,
   ⟨(.some 10), (.mov (.t 83)), .none⟩])
 c53_33)
abbrev c53_47 : PCode :=
 (.region [⟨(.some 122), (.faddr 3 (.t 7)), .none⟩,
   ⟨(.some 123), (.load .false 1 (.t 122) .true), .none⟩,
   ⟨(.some 124), (.mov (.t 0)), .none⟩,
   ⟨(.some 125), (.load .true 4 (.t 13) .true), .none⟩,
   ⟨(.some 126), (.mov (.t 2)), .none⟩,
   ⟨(.some 127), (.bin .sub (.t 126) (.c (.d (.int .i64 1)))), .none⟩,
   ⟨(.some 128), (.call 53 [(.t 124), (.t 125), (.t 127)]), .none⟩,
   ⟨(.some 129), (.bsl 4 [(.t 128)]), .none⟩,
   ⟨(.some 130), (.app 4 56 (.t 123) (.t 129)), .none⟩,
   ⟨(.some 131), (.faddr 3 (.t 7)), .none⟩,
   ⟨.none, (.storeo 1 (.t 131) (.t 130)), .none⟩])
abbrev c53_46 : PCode :=
 (.block 4 (.seq (.region [⟨(.some 120), (.iaddr 4 (.t 116) (.t 118)), .none⟩,
   ⟨(.some 121), (.load .true 4 (.t 120) .false), .none⟩,
   ⟨(.some 13), (.alloc [(.d (.int .u8 0)), (.d (.int .i64 0)), (.full []), (.full [])]), .none⟩,
   ⟨.none, (.store 4 (.t 13) (.t 121)), .none⟩])
 c53_47))
abbrev c53_45 : PCode :=
 (.keep [0, 2, 6, 7, 116, 117, 118] (.block 3 (.loop (.some [118, 0, 2, 6, 7, 116, 117]) (.seq (.region [⟨(.some 119), (.bin .lss (.t 118) (.t 117)), .none⟩])
 (.seq (.cond (.t 119)
  .skip
  (.exit 3))
 (.seq c53_46
 (.region [⟨(.some 132), (.bin .add (.t 118) (.c (.d (.int .i64 1)))), .none⟩,
   ⟨(.some 118), (.mov (.t 132)), .none⟩])))))))
abbrev c53_44 : PCode :=
 (.seq (.region [⟨(.some 115), (.faddr 3 (.t 4)), .none⟩,
   ⟨(.some 116), (.load .false 1 (.t 115) .false), .none⟩,
   ⟨(.some 117), (.len (.t 116)), .none⟩,
   ⟨(.some 118), (.mov (.c (.d (.int .i64 0)))), .none⟩])
 c53_45)
abbrev c53_54 : PCode :=
 (.region [⟨(.some 146), (.mov (.t 0)), .none⟩,
   ⟨(.some 147), (.faddr 3 (.t 4)), .none⟩,
   ⟨(.some 148), (.load .false 1 (.t 147) .false), .none⟩,
   ⟨(.some 149), (.mov (.t 14)), .none⟩,
   ⟨(.some 150), (.iaddr 4 (.t 148) (.t 149)), .none⟩,
   ⟨(.some 151), (.load .true 4 (.t 150) .false), .none⟩,
   ⟨(.some 152), (.mov (.t 2)), .none⟩,
   ⟨(.some 153), (.bin .sub (.t 152) (.c (.d (.int .i64 1)))), .none⟩,
   ⟨(.some 154), (.call0 53 [(.t 146), (.t 151), (.t 153)]), .none⟩,
   ⟨(.some 155), (.bsl 4 [(.t 154)]), .none⟩,
   ⟨(.some 156), (.faddr 3 (.t 7)), .none⟩,
   ⟨.none, (.store 1 (.t 156) (.t 155)), .none⟩])
abbrev c53_53 : PCode :=
 (.seq (.region [⟨(.some 144), (.mov (.t 14)), .none⟩,
   ⟨(.some 145), (.faddr 0 (.t 7)), .none⟩,
   ⟨.none, (.store 1 (.t 145) (.t 144)), .none⟩])
 c53_54)
abbrev c53_52 : PCode :=
 (.cond (.t 143)
  c53_53
  .skip)
abbrev c53_51 : PCode :=
 (.keep [0, 2, 4, 6, 7, 14] (.seq (.region [⟨(.some 141), (.mov (.t 0)), .none⟩,
   ⟨(.some 142), (.call0 69 [(.t 141)]), .none⟩,
   ⟨(.some 143), (.bin .eql (.t 142) (.c (.d (.int .i64 0)))), .none⟩])
 c53_52))
abbrev c53_50 : PCode :=
 (.seq (.region [⟨(.some 135), (.mov (.t 0)), .none⟩,
   ⟨(.some 136), (.faddr 3 (.t 4)), .none⟩,
   ⟨(.some 137), (.load .false 1 (.t 136) .false), .none⟩,
   ⟨(.some 138), (.len (.t 137)), .none⟩,
   ⟨(.some 139), (.bin .sub (.t 138) (.c (.d (.int .i64 1)))), .none⟩,
   ⟨(.some 140), (.call0 70 [(.t 135), (.t 139)]), .none⟩,
   ⟨(.some 14), (.mov (.t 140)), .none⟩])
 c53_51)
abbrev c53_49 : PCode :=
 (.cond (.t 133)
  c53_50
  .skip)
abbrev c53_48 : PCode :=
 (.seq (.region [⟨(.some 134), (.bin .eql (.t 29) (.c (.d (.int .u8 8)))), .none⟩,
   ⟨(.some 133), (.mov (.t 134)), .none⟩])
 c53_49)
abbrev c53_43 : PCode :=
 (.cond (.t 113)
  c53_44
  c53_48)
abbrev c53_42 : PCode :=
 (.seq (.region [⟨(.some 114), (.bin .eql (.t 29) (.c (.d (.int .u8 6)))), .none⟩,
   ⟨(.some 113), (.mov (.t 114)), .none⟩])
 c53_43)
abbrev c53_31 : PCode :=
 (.cond (.t 78)
  c53_32
  c53_42)
abbrev c53_30 : PCode :=
 (.seq (.region [⟨(.some 79), (.bin .eql (.t 29) (.c (.d (.int .u8 5)))), .none⟩,
   ⟨(.some 78), (.mov (.t 79)), .none⟩])
 c53_31)
abbrev c53_28 : PCode :=
 (.cond (.t 71)
  c53_29
  c53_30)
abbrev c53_27 : PCode :=
 (.seq (.region [⟨(.some 72), (.bin .eql (.t 29) (.c (.d (.int .u8 4)))), .none⟩,
   ⟨(.some 71), (.mov (.t 72)), .none⟩])
 c53_28)
abbrev c53_21 : PCode :=
 (.cond (.t 57)
  c53_22
  c53_27)
abbrev c53_20 : PCode :=
 (.seq (.region [⟨(.some 58), (.bin .eql (.t 29) (.c (.d (.int .u8 3)))), .none⟩,
   ⟨(.some 57), (.mov (.t 58)), .none⟩])
 c53_21)
abbrev c53_18 : PCode :=
 (.cond (.t 50)
  c53_19
  c53_20)
abbrev c53_17 : PCode :=
 (.seq (.region [⟨(.some 51), (.bin .eql (.t 29) (.c (.d (.int .u8 2)))), .none⟩,
   ⟨(.some 50), (.mov (.t 51)), .none⟩])
 c53_18)
abbrev c53_15 : PCode :=
 (.cond (.t 41)
  c53_16
  c53_17)
abbrev c53_14 : PCode :=
 (.seq (.region [⟨(.some 42), (.bin .eql (.t 29) (.c (.d (.int .u8 7)))), .none⟩,
   ⟨(.some 41), (.mov (.t 42)), .none⟩])
 c53_15)
abbrev c53_12 : PCode :=
 (.cond (.t 35)
  c53_13
  c53_14)
abbrev c53_11 : PCode :=
 (.seq (.region [⟨(.some 36), (.bin .eql (.t 29) (.c (.d (.int .u8 1)))), .none⟩,
   ⟨(.some 35), (.mov (.t 36)), .none⟩])
 c53_12)
abbrev c53_9 : PCode :=
 (.cond (.t 30)
  c53_10
  c53_11)
abbrev c53_8 : PCode :=
 (.block 0 (.seq (.region [⟨(.some 31), (.bin .eql (.t 29) (.c (.d (.int .u8 0)))), .none⟩,
   ⟨(.some 30), (.mov (.t 31)), .none⟩])
 c53_9))
abbrev c53_55 : PCode :=
 (.keep [6, 7] (.seq (.region [⟨(.some 157), (.load .true 4 (.t 7) .false), .none⟩,
   ⟨.none, (.store 4 (.t 6) (.t 157)), .none⟩])
 .ret))
abbrev c53_7 : PCode :=
 (.seq (.seq (.region [⟨(.some 28), (.faddr 0 (.t 4)), .none⟩,
   ⟨(.some 29), (.load .false 1 (.t 28) .false), .none⟩])
 c53_8)
 c53_55)
abbrev c53_6 : PCode :=
 (.keep [0, 2, 4, 6] (.seq (.region [⟨(.some 7), (.alloc [(.d (.int .i64 0)), (.d (.flt .f64 0)), (.d (.str (bs []))), (.full [])]), .none⟩])
 c53_7))
abbrev c53_3 : PCode :=
 (.keep [0, 2, 4, 6] (.seq (.seq (.region [⟨(.some 24), (.mov (.t 0)), .none⟩,
   ⟨(.some 25), (.call0 69 [(.t 24)]), .none⟩,
   ⟨(.some 26), (.bin .neq (.t 25) (.c (.d (.int .i64 0)))), .none⟩])
 c53_4)
 c53_6))
abbrev c53_0 : PCode :=
 (.seq (.seq (.region [⟨(.some 15), (.mov (.t 2)), .none⟩,
   ⟨(.some 16), (.bin .lss (.t 15) (.c (.d (.int .i64 1)))), .none⟩,
   ⟨(.some 17), (.mov (.t 16)), .none⟩,
   ⟨(.some 18), (.faddr 0 (.t 4)), (.some (17, .false))⟩,
   ⟨(.some 19), (.load .false 1 (.t 18) .false), (.some (17, .false))⟩,
   ⟨(.some 20), (.bin .geq (.t 19) (.c (.d (.int .u8 9)))), (.some (17, .false))⟩,
   ⟨(.some 21), (.pick (.t 17) (.c (.d (.bool .true))) (.t 20)), .none⟩])
 c53_1)
 c53_3)
def c53 : PFun := ⟨
 (.seq (.region [⟨(.some 4), (.box 4 (.t 1)), .none⟩,
   ⟨(.some 6), (.alloc [(.d (.int .i64 0)), (.d (.flt .f64 0)), (.d (.str (bs []))), (.full [])]), .none⟩])
 c53_0),
 3, 158, [(.cell 6 .true 4)]⟩

/-- prompter/courier.Take -/
abbrev c30_2 : PCode :=
 (.seq (.region [⟨(.some 12), (.bld [(.d (.int .i64 0)), (.d (.flt .f64 0)), (.d (.str (bs []))), (.full [])] []), .none⟩,
   ⟨.none, (.store 4 (.t 4) (.t 12)), .none⟩,
   ⟨(.some 5), (.mov (.c (.d (.int .i64 6)))), .none⟩])
 .ret)
abbrev c30_1 : PCode :=
 (.cond (.t 11)
  c30_2
  .skip)
abbrev c30_8 : PCode :=
 (.seq (.region [⟨(.some 22), (.bld [(.d (.int .i64 0)), (.d (.flt .f64 0)), (.d (.str (bs []))), (.full [])] []), .none⟩,
   ⟨(.some 23), (.mov (.t 8)), .none⟩,
   ⟨.none, (.store 4 (.t 4) (.t 22)), .none⟩,
   ⟨(.some 5), (.mov (.t 23)), .none⟩])
 .ret)
abbrev c30_7 : PCode :=
 (.cond (.t 21)
  c30_8
  .skip)
abbrev c30_6 : PCode :=
 (.keep [4, 7, 8] (.seq (.region [⟨(.some 20), (.mov (.t 8)), .none⟩,
   ⟨(.some 21), (.bin .neq (.t 20) (.c (.d (.int .i64 0)))), .none⟩])
 c30_7))
abbrev c30_9 : PCode :=
 (.seq (.region [⟨(.some 24), (.load .true 4 (.t 7) .false), .none⟩,
   ⟨.none, (.store 4 (.t 4) (.t 24)), .none⟩,
   ⟨(.some 5), (.mov (.c (.d (.int .i64 0)))), .none⟩])
 .ret)
abbrev c30_5 : PCode :=
 (.keep [4, 6, 7] (.seq (.seq (.region [⟨(.some 18), (.mov (.t 6)), .none⟩,
   ⟨(.some 19), (.call0 54 [(.t 18)]), .none⟩,
   ⟨(.some 8), (.mov (.t 19)), .none⟩])
 c30_6)
 c30_9))
abbrev c30_4 : PCode :=
 (.keep [2, 4, 6] (.seq (.region [⟨(.some 15), (.mov (.t 6)), .none⟩,
   ⟨(.some 16), (.load .true 4 (.t 2) .false), .none⟩,
   ⟨(.some 17), (.call0 53 [(.t 15), (.t 16), (.c (.d (.int .i64 20)))]), .none⟩,
   ⟨(.some 7), (.alloc [(.d (.int .i64 0)), (.d (.flt .f64 0)), (.d (.str (bs []))), (.full [])]), .none⟩,
   ⟨.none, (.store 4 (.t 7) (.t 17)), .none⟩])
 c30_5))
abbrev c30_3 : PCode :=
 (.keep [1, 2, 4] (.seq (.region [⟨(.some 13), (.mov (.t 1)), .none⟩,
   ⟨(.some 14), (.call0 52 [(.t 13)]), .none⟩,
   ⟨(.some 6), (.mov (.t 14)), .none⟩])
 c30_4))
abbrev c30_0 : PCode :=
 (.keep [1, 2, 4] (.seq (.seq (.region [⟨(.some 9), (.mov (.t 1)), .none⟩,
   ⟨(.some 10), (.len (.t 9)), .none⟩,
   ⟨(.some 11), (.bin .gtr (.t 10) (.c (.d (.int .i64 4000)))), .none⟩])
 c30_1)
 c30_3))
def c30 : PFun := ⟨
 (.seq (.region [⟨(.some 2), (.box 4 (.t 0)), .none⟩,
   ⟨(.some 4), (.alloc [(.d (.int .i64 0)), (.d (.flt .f64 0)), (.d (.str (bs []))), (.full [])]), .none⟩,
   ⟨(.some 5), (.mov (.c (.d (.int .i64 0)))), .none⟩])
 c30_0),
 2, 25, [(.cell 4 .true 4), (.tmp 5)]⟩

theorem e53 : entered Try.prog 53 = true := by kernel_rfl
theorem k53 : compFun Try.prog (fun i => if i = 29 then 6 else if i = 34 then 6 else 0) 53 = some c53.er := by kernel_rfl
theorem e30 : entered Try.prog 30 = true := by kernel_rfl
theorem k30 : compFun Try.prog (fun _ => 0) 30 = some c30.er := by kernel_rfl


inductive WO : Nat → KT → Prop
  | odd (d : Nat) (k m : Int) (hk : 0 ≤ k ∧ k ≤ 255) (hm : -9223372036854775808 ≤ m ∧ m ≤ 9223372036854775807) : WO (d + 1) (.mk k m [] [])
  | seq (d : Nat) (m : Int) (o : KT) (hm : 1 ≤ m ∧ m ≤ 60) (ho : WO d o) : WO (d + 1) (.mk 5 m [] [o])
  | reco (d : Nat) (k : Int) (n : List ByteArray) (o : List KT) (hk : k = 6 ∨ k = 8) (hl : 1 ≤ o.length ∧ o.length ≤ 3) (ho : ∀ x ∈ o, WO d x) : WO (d + 1) (.mk k 0 n o)
  | enum (d : Nat) (n : List ByteArray) (hl : 1 ≤ n.length ∧ n.length ≤ 3) : WO (d + 1) (.mk 7 0 n [])
theorem WT.wo {d : Nat} {T : KT} (h : WT d T) : WO d T := by
  induction h with
  | base e k hk => exact .odd e k 0 (by omega) (by omega)
  | text e m hm => exact .odd e 4 m (by omega) (by omega)
  | seq e m o hm _ ih => exact .seq e m o hm ih
  | reco e k n o hk hl _ _ _ ih => exact .reco e k n o hk hl ih
  | enum e n hl _ => exact .enum e n hl

theorem takeE (l : List Int) (T : KT) (pr : Nat) (a : AV) (s : RS) (he : s.e ≠ 0) (dp : Int) (hd : 1 ≤ dp) : CL (PCalls Try.prog GG) 53 [ptrAt pr, T.av, .d (.int .i64 dp)] (rdF pr a l s) (fun _ : AV => VT.zero.av) (fun b => rdF pr b l s) := by
  refine ⟨rd_sat _ _ _ _ _, ?_⟩
  have c1 := fun a => rdErr pr a l s
  have c2 := fun a => rdFail pr a l s 5
  rw [show rFail s 5 = s from if_neg he] at c2
  simp only [rdF, KT.av_eq, VT.av_eq, VT.zero, VT.pj, List.map_nil] at c1 c2 ⊢
  have hdp : decide (dp < 1) = false := by simp; omega
  have hee : (s.e != 0) = true := by simpa using he
  intro st t hL; refine pcalls_of k53 e53 (of_decide_eq_true rfl) ?_; dsimp only [c53]; generalize hQ : pfin _ _ = Q
  (refine gor hL ?_; (repeat (clear hL; intro t hL; refine gor hL ?_))); refine po_boxA hL ?_; clear hL; intro p4 t hL
  (refine gor hL ?_; (repeat (clear hL; intro t hL; refine gor hL ?_))); (with_reducible refine po_allocL hL rfl ?_); clear hL; intro p6 t hL
  refine gor hL ?_; (repeat (clear hL; intro t hL; refine gor hL ?_)); (repeat (refine pseqk ?_; refine gor hL ?_; (repeat (clear hL; intro t hL; refine gor hL ?_))))
  refine gnm ?_; rw [hdp]
  refine gor hL ?_; (repeat (clear hL; intro t hL; refine gor hL ?_)); (repeat (refine pseqk ?_; refine gor hL ?_; (repeat (clear hL; intro t hL; refine gor hL ?_))))
  refine pjoinC (fun s' u => ∃ b, s' = put (put (put (put (fun _ => .undef) (some 6) (ptrAt p6)) (some 4) (ptrAt p4)) (some 2) (.d (.int .i64 dp))) (some 0) (ptrAt pr) ∧ Lay st [.box p6 [.d (.int .i64 0), .d (.flt .f64 0), .d (.str (bs [])), .full []], .box pr [b, .d (.int .i64 s.p), .d (.int .i64 s.e)], .vec b (rowsB l) 1] u) ?_ ?_
  · refine pcond_b rfl (fun h => ?_) (fun h => ?_)
    · refine gor hL ?_; (repeat (clear hL; intro t hL; refine gor hL ?_))
      refine po_callK hL ((c2 _)) ?_; clear hL; intro b t hL; have fb := hL.vk b; obtain ⟨fb_r, fb_w, fb_w1, fb_c, fb_s, fb_d⟩ := id fb
      refine gor hL ?_; (repeat (clear hL; intro t hL; refine gor hL ?_))
      exact ⟨b, (by first | exact trimA | simp +decide only [pvc, pvt]), hL.pk⟩
    · refine gor hL ?_; (repeat (clear hL; intro t hL; refine gor hL ?_))
      exact ⟨a, (by first | exact trimA | simp +decide only [pvc, pvt]), hL.pk⟩
  rintro s' u ⟨b, rfl, hL⟩
  refine gor hL ?_; (repeat (clear hL; intro t hL; refine gor hL ?_))
  refine po_callK hL ((c1 _)) ?_; clear hL; intro b' t hL; have fb' := hL.vk b'; obtain ⟨fb'_r, fb'_w, fb'_w1, fb'_c, fb'_s, fb'_d⟩ := id fb'
  refine gor hL ?_; (repeat (clear hL; intro t hL; refine gor hL ?_))
  refine gnm ?_; rw [hee]
  refine gor hL ?_; (repeat (clear hL; intro t hL; refine gor hL ?_)); (repeat (refine pseqk ?_; refine gor hL ?_; (repeat (clear hL; intro t hL; refine gor hL ?_))))
  rw [← hQ]
  exact pfinK b' (pret_one (pres_cellL hL rfl (by repeat (first | exact Rem.head | apply Rem.tail)) rfl)) (.inr rfl) hL
theorem tkq : (∀ pr a l s, rdF pr a l s = [.box pr [a, .d (.int .i64 s.p), .d (.int .i64 s.e)], .vec a (rowsB l) 1]) ∧ (∀ t : KT, t.av = .agg [.d (.int .u8 t.kind), .d (.int .i64 t.most), .d (.sl (t.names.map fun s => [.str s])), .d (.sl (t.of.map KT.row))]) ∧ (∀ t : VT, t.av = .agg [.d (.int .i64 t.n), .d (.flt .f64 t.f), .d (.str t.s), .d (.sl (t.of.map VT.row))]) ∧ (∀ n, VT.num n = .mk n 0 (bs []) []) ∧
    ((∀ k m n o, (KT.mk k m n o).kind = k) ∧ (∀ k m n o, (KT.mk k m n o).most = m) ∧ (∀ k m n o, (KT.mk k m n o).names = n) ∧ (∀ k m n o, (KT.mk k m n o).of = o)) ∧ ((∀ k m n o, (VT.mk k m n o).n = k) ∧ (∀ k m n o, (VT.mk k m n o).f = m) ∧ (∀ k m n o, (VT.mk k m n o).s = n) ∧ (∀ k m n o, (VT.mk k m n o).of = o)) ∧
    (∀ f : KT → List Dat, [].map f = []) ∧ (∀ (f : KT → List Dat) (x : KT) (l : List KT), (x :: l).map f = f x :: l.map f) ∧ (∀ f : VT → List Dat, [].map f = []) ∧ (∀ (f : VT → List Dat) (x : VT) (l : List VT), (x :: l).map f = f x :: l.map f) ∧ (∀ f : ByteArray → List Dat, [].map f = []) :=
  ⟨fun _ _ _ _ => rfl, KT.av_eq, VT.av_eq, fun _ => rfl, ⟨fun _ _ _ _ => rfl, fun _ _ _ _ => rfl, fun _ _ _ _ => rfl, fun _ _ _ _ => rfl⟩, ⟨fun _ _ _ _ => rfl, fun _ _ _ _ => rfl, fun _ _ _ _ => rfl, fun _ _ _ _ => rfl⟩, fun _ => rfl, fun _ _ _ => rfl, fun _ => rfl, fun _ _ _ => rfl, fun _ => rfl⟩
/-- What is taken. -/
theorem takeC (l : List Int) (hb : bytesL l) (hl : l.length < 2 ^ 40) {d : Nat} {T : KT} (hW : WO d T) : ∀ (dp : Int), (d : Int) ≤ dp ∧ dp ≤ 20 → ∀ (pr : Nat) (a : AV) (s : RS), s.ok l → CL (PCalls Try.prog GG) 53 [ptrAt pr, T.av, .d (.int .i64 dp)] (rdF pr a l s) (fun _ : AV => (takeM l d T s).1.av) (fun b => rdF pr b l (takeM l d T s).2) := by
  have err : ∀ {d : Nat} {T : KT} (dp : Int), ((d + 1 : Nat) : Int) ≤ dp ∧ dp ≤ 20 → ∀ (pr : Nat) (a : AV) (s : RS), s.ok l → (s.e = 0 → CL (PCalls Try.prog GG) 53 [ptrAt pr, T.av, .d (.int .i64 dp)] (rdF pr a l s) (fun _ : AV => (takeM l (d + 1) T s).1.av) (fun b => rdF pr b l (takeM l (d + 1) T s).2)) → CL (PCalls Try.prog GG) 53 [ptrAt pr, T.av, .d (.int .i64 dp)] (rdF pr a l s) (fun _ : AV => (takeM l (d + 1) T s).1.av) (fun b => rdF pr b l (takeM l (d + 1) T s).2) := by
    intro d T dp hd pr a s h k
    by_cases he : s.e = 0
    · exact k he
    · rw [takeM, if_pos he]
      exact takeE l T pr a s he dp (by omega)
  induction hW with
  | odd d k m hk hm =>
    intro dp hd pr a s h
    refine err dp hd pr a s h fun he => ?_
    obtain ⟨p, e⟩ := s
    simp only at he
    subst he
    have hdp : decide (dp < 1) = false := by simp; omega
    refine ⟨rd_sat _ _ _ _ _, ?_⟩
    have c1 := fun a => rdErr pr a l ⟨p, 0⟩
    have : k = 0 ∨ k = 1 ∨ k = 2 ∨ k = 3 ∨ k = 4 ∨ k = 5 ∨ k = 6 ∨ k = 7 ∨ k = 8 ∨ 9 ≤ k := by omega
    rcases this with rfl | rfl | rfl | rfl | rfl | rfl | rfl | rfl | rfl | hk9
    · rw [show takeM l (d + 1) (.mk 0 m [] []) ⟨p, 0⟩ = (VT.num (rWithin l ⟨p, 0⟩ 1).1, (rWithin l ⟨p, 0⟩ 1).2) from rfl]
      have c2 := fun a => rdWithin pr a l hb ⟨p, 0⟩ h hl 1
      simp only [tkq] at *
      intro st t hL; refine pcalls_of k53 e53 (of_decide_eq_true rfl) ?_; dsimp only [c53]; generalize hQ : pfin _ _ = Q
      (refine gor hL ?_; (repeat (clear hL; intro t hL; refine gor hL ?_))); refine po_boxA hL ?_; clear hL; intro p4 t hL
      (refine gor hL ?_; (repeat (clear hL; intro t hL; refine gor hL ?_))); (with_reducible refine po_allocL hL rfl ?_); clear hL; intro p6 t hL
      refine gor hL ?_; (repeat (clear hL; intro t hL; refine gor hL ?_)); (repeat (refine pseqk ?_; refine gor hL ?_; (repeat (clear hL; intro t hL; refine gor hL ?_))))
      refine gnm ?_; rw [hdp]
      refine gor hL ?_; (repeat (clear hL; intro t hL; refine gor hL ?_)); (repeat (refine pseqk ?_; refine gor hL ?_; (repeat (clear hL; intro t hL; refine gor hL ?_))))
      refine po_callK hL ((c1 _)) ?_; clear hL; intro b0 t hL; have fb0 := hL.vk b0; obtain ⟨fb0_r, fb0_w, fb0_w1, fb0_c, fb0_s, fb0_d⟩ := id fb0
      refine gor hL ?_; (repeat (clear hL; intro t hL; refine gor hL ?_)); (repeat (refine pseqk ?_; refine gor hL ?_; (repeat (clear hL; intro t hL; refine gor hL ?_))))
      (refine gor hL ?_; (repeat (clear hL; intro t hL; refine gor hL ?_))); (with_reducible refine po_allocL hL rfl ?_); clear hL; intro p7 t hL
      refine gor hL ?_; (repeat (clear hL; intro t hL; refine gor hL ?_)); (repeat (refine pseqk ?_; refine gor hL ?_; (repeat (clear hL; intro t hL; refine gor hL ?_))))
      refine po_callK hL ((c2 _)) ?_; clear hL; intro b t hL; have fb := hL.vk b; obtain ⟨fb_r, fb_w, fb_w1, fb_c, fb_s, fb_d⟩ := id fb
      refine gor hL ?_; (repeat (clear hL; intro t hL; refine gor hL ?_)); (repeat (refine pseqk ?_; refine gor hL ?_; (repeat (clear hL; intro t hL; refine gor hL ?_))))
      rw [← hQ]
      exact pfinK b (pret_one (pres_cellL hL rfl (by repeat (first | exact Rem.head | apply Rem.tail)) rfl)) (.inr rfl) hL
    · rw [show takeM l (d + 1) (.mk 1 m [] []) ⟨p, 0⟩ = (VT.num (rWord l ⟨p, 0⟩).1, (rWord l ⟨p, 0⟩).2) from rfl]
      have c2 := fun a => rdWord pr a l hb ⟨p, 0⟩ h hl
      have hn := rWord_in hb ⟨p, 0⟩
      simp only [tkq] at *
      intro st t hL; refine pcalls_of k53 e53 (of_decide_eq_true rfl) ?_; dsimp only [c53]; generalize hQ : pfin _ _ = Q
      (refine gor hL ?_; (repeat (clear hL; intro t hL; refine gor hL ?_))); refine po_boxA hL ?_; clear hL; intro p4 t hL
      (refine gor hL ?_; (repeat (clear hL; intro t hL; refine gor hL ?_))); (with_reducible refine po_allocL hL rfl ?_); clear hL; intro p6 t hL
      refine gor hL ?_; (repeat (clear hL; intro t hL; refine gor hL ?_)); (repeat (refine pseqk ?_; refine gor hL ?_; (repeat (clear hL; intro t hL; refine gor hL ?_))))
      refine gnm ?_; rw [hdp]
      refine gor hL ?_; (repeat (clear hL; intro t hL; refine gor hL ?_)); (repeat (refine pseqk ?_; refine gor hL ?_; (repeat (clear hL; intro t hL; refine gor hL ?_))))
      refine po_callK hL ((c1 _)) ?_; clear hL; intro b0 t hL; have fb0 := hL.vk b0; obtain ⟨fb0_r, fb0_w, fb0_w1, fb0_c, fb0_s, fb0_d⟩ := id fb0
      refine gor hL ?_; (repeat (clear hL; intro t hL; refine gor hL ?_)); (repeat (refine pseqk ?_; refine gor hL ?_; (repeat (clear hL; intro t hL; refine gor hL ?_))))
      (refine gor hL ?_; (repeat (clear hL; intro t hL; refine gor hL ?_))); (with_reducible refine po_allocL hL rfl ?_); clear hL; intro p7 t hL
      refine gor hL ?_; (repeat (clear hL; intro t hL; refine gor hL ?_)); (repeat (refine pseqk ?_; refine gor hL ?_; (repeat (clear hL; intro t hL; refine gor hL ?_))))
      refine po_callK hL ((c2 _)) ?_; clear hL; intro b t hL; have fb := hL.vk b; obtain ⟨fb_r, fb_w, fb_w1, fb_c, fb_s, fb_d⟩ := id fb
      refine gor hL ?_; (repeat (clear hL; intro t hL; refine gor hL ?_))
      rw [IntWalk.i64_in _ (by omega)] at hL
      refine gor hL ?_; (repeat (clear hL; intro t hL; refine gor hL ?_)); (repeat (refine pseqk ?_; refine gor hL ?_; (repeat (clear hL; intro t hL; refine gor hL ?_))))
      rw [← hQ]
      exact pfinK b (pret_one (pres_cellL hL rfl (by repeat (first | exact Rem.head | apply Rem.tail)) rfl)) (.inr rfl) hL
    · rw [show takeM l (d + 1) (.mk 2 m [] []) ⟨p, 0⟩ = (VT.num (IntKind.i64.wrap (IntKind.i32.wrap (rLong l ⟨p, 0⟩).1)), (rLong l ⟨p, 0⟩).2) from rfl]
      have c2 := fun a => rdLong pr a l hb ⟨p, 0⟩ h hl
      simp only [tkq] at *
      intro st t hL; refine pcalls_of k53 e53 (of_decide_eq_true rfl) ?_; dsimp only [c53]; generalize hQ : pfin _ _ = Q
      (refine gor hL ?_; (repeat (clear hL; intro t hL; refine gor hL ?_))); refine po_boxA hL ?_; clear hL; intro p4 t hL
      (refine gor hL ?_; (repeat (clear hL; intro t hL; refine gor hL ?_))); (with_reducible refine po_allocL hL rfl ?_); clear hL; intro p6 t hL
      refine gor hL ?_; (repeat (clear hL; intro t hL; refine gor hL ?_)); (repeat (refine pseqk ?_; refine gor hL ?_; (repeat (clear hL; intro t hL; refine gor hL ?_))))
      refine gnm ?_; rw [hdp]
      refine gor hL ?_; (repeat (clear hL; intro t hL; refine gor hL ?_)); (repeat (refine pseqk ?_; refine gor hL ?_; (repeat (clear hL; intro t hL; refine gor hL ?_))))
      refine po_callK hL ((c1 _)) ?_; clear hL; intro b0 t hL; have fb0 := hL.vk b0; obtain ⟨fb0_r, fb0_w, fb0_w1, fb0_c, fb0_s, fb0_d⟩ := id fb0
      refine gor hL ?_; (repeat (clear hL; intro t hL; refine gor hL ?_)); (repeat (refine pseqk ?_; refine gor hL ?_; (repeat (clear hL; intro t hL; refine gor hL ?_))))
      (refine gor hL ?_; (repeat (clear hL; intro t hL; refine gor hL ?_))); (with_reducible refine po_allocL hL rfl ?_); clear hL; intro p7 t hL
      refine gor hL ?_; (repeat (clear hL; intro t hL; refine gor hL ?_)); (repeat (refine pseqk ?_; refine gor hL ?_; (repeat (clear hL; intro t hL; refine gor hL ?_))))
      refine po_callK hL ((c2 _)) ?_; clear hL; intro b t hL; have fb := hL.vk b; obtain ⟨fb_r, fb_w, fb_w1, fb_c, fb_s, fb_d⟩ := id fb
      refine gor hL ?_; (repeat (clear hL; intro t hL; refine gor hL ?_)); (repeat (refine pseqk ?_; refine gor hL ?_; (repeat (clear hL; intro t hL; refine gor hL ?_))))
      rw [← hQ]
      exact pfinK b (pret_one (pres_cellL hL rfl (by repeat (first | exact Rem.head | apply Rem.tail)) rfl)) (.inr rfl) hL
    · rw [show takeM l (d + 1) (.mk 3 m [] []) ⟨p, 0⟩ = (.mk 0 (rQuad l ⟨p, 0⟩).1.toNat (bs []) [], if fbits (rQuad l ⟨p, 0⟩).1.toNat = (rQuad l ⟨p, 0⟩).1 then (rQuad l ⟨p, 0⟩).2 else rFail (rQuad l ⟨p, 0⟩).2 4) from rfl]
      have c2 := fun a => rdQuad pr a l hb ⟨p, 0⟩ h hl
      have hn := rQuad_in hb ⟨p, 0⟩
      generalize rQuad l ⟨p, 0⟩ = R at *
      obtain ⟨n, q⟩ := R
      simp only at *
      obtain ⟨n, rfl⟩ := Int.eq_ofNat_of_zero_le hn.1
      rw [Int.toNat_natCast] at *
      have c3 := realOf n (by omega)
      have c4 := fun a => rdFail pr a l q 4
      by_cases hf : fbits n = (n : Int)
      · rw [if_pos hf]
        rw [hf, beq_self_eq_true] at c3
        simp only [tkq] at *
        intro st t hL; refine pcalls_of k53 e53 (of_decide_eq_true rfl) ?_; dsimp only [c53]; generalize hQ : pfin _ _ = Q
        (refine gor hL ?_; (repeat (clear hL; intro t hL; refine gor hL ?_))); refine po_boxA hL ?_; clear hL; intro p4 t hL
        (refine gor hL ?_; (repeat (clear hL; intro t hL; refine gor hL ?_))); (with_reducible refine po_allocL hL rfl ?_); clear hL; intro p6 t hL
        refine gor hL ?_; (repeat (clear hL; intro t hL; refine gor hL ?_)); (repeat (refine pseqk ?_; refine gor hL ?_; (repeat (clear hL; intro t hL; refine gor hL ?_))))
        refine gnm ?_; rw [hdp]
        refine gor hL ?_; (repeat (clear hL; intro t hL; refine gor hL ?_)); (repeat (refine pseqk ?_; refine gor hL ?_; (repeat (clear hL; intro t hL; refine gor hL ?_))))
        refine po_callK hL ((c1 _)) ?_; clear hL; intro b0 t hL; have fb0 := hL.vk b0; obtain ⟨fb0_r, fb0_w, fb0_w1, fb0_c, fb0_s, fb0_d⟩ := id fb0
        refine gor hL ?_; (repeat (clear hL; intro t hL; refine gor hL ?_)); (repeat (refine pseqk ?_; refine gor hL ?_; (repeat (clear hL; intro t hL; refine gor hL ?_))))
        (refine gor hL ?_; (repeat (clear hL; intro t hL; refine gor hL ?_))); (with_reducible refine po_allocL hL rfl ?_); clear hL; intro p7 t hL
        refine gor hL ?_; (repeat (clear hL; intro t hL; refine gor hL ?_)); (repeat (refine pseqk ?_; refine gor hL ?_; (repeat (clear hL; intro t hL; refine gor hL ?_))))
        refine po_callK hL ((c2 _)) ?_; clear hL; intro b t hL; have fb := hL.vk b; obtain ⟨fb_r, fb_w, fb_w1, fb_c, fb_s, fb_d⟩ := id fb
        refine gor hL ?_; (repeat (clear hL; intro t hL; refine gor hL ?_))
        refine po_c0 (c3) ?_
        refine gor hL ?_; (repeat (clear hL; intro t hL; refine gor hL ?_)); (repeat (refine pseqk ?_; refine gor hL ?_; (repeat (clear hL; intro t hL; refine gor hL ?_))))
        rw [← hQ]
        exact pfinK b (pret_one (pres_cellL hL rfl (by repeat (first | exact Rem.head | apply Rem.tail)) rfl)) (.inr rfl) hL
      · rw [if_neg hf]
        rw [show (fbits n == (n : Int)) = false by simpa using hf] at c3
        simp only [tkq] at *
        intro st t hL; refine pcalls_of k53 e53 (of_decide_eq_true rfl) ?_; dsimp only [c53]; generalize hQ : pfin _ _ = Q
        (refine gor hL ?_; (repeat (clear hL; intro t hL; refine gor hL ?_))); refine po_boxA hL ?_; clear hL; intro p4 t hL
        (refine gor hL ?_; (repeat (clear hL; intro t hL; refine gor hL ?_))); (with_reducible refine po_allocL hL rfl ?_); clear hL; intro p6 t hL
        refine gor hL ?_; (repeat (clear hL; intro t hL; refine gor hL ?_)); (repeat (refine pseqk ?_; refine gor hL ?_; (repeat (clear hL; intro t hL; refine gor hL ?_))))
        refine gnm ?_; rw [hdp]
        refine gor hL ?_; (repeat (clear hL; intro t hL; refine gor hL ?_)); (repeat (refine pseqk ?_; refine gor hL ?_; (repeat (clear hL; intro t hL; refine gor hL ?_))))
        refine po_callK hL ((c1 _)) ?_; clear hL; intro b0 t hL; have fb0 := hL.vk b0; obtain ⟨fb0_r, fb0_w, fb0_w1, fb0_c, fb0_s, fb0_d⟩ := id fb0
        refine gor hL ?_; (repeat (clear hL; intro t hL; refine gor hL ?_)); (repeat (refine pseqk ?_; refine gor hL ?_; (repeat (clear hL; intro t hL; refine gor hL ?_))))
        (refine gor hL ?_; (repeat (clear hL; intro t hL; refine gor hL ?_))); (with_reducible refine po_allocL hL rfl ?_); clear hL; intro p7 t hL
        refine gor hL ?_; (repeat (clear hL; intro t hL; refine gor hL ?_)); (repeat (refine pseqk ?_; refine gor hL ?_; (repeat (clear hL; intro t hL; refine gor hL ?_))))
        refine po_callK hL ((c2 _)) ?_; clear hL; intro b t hL; have fb := hL.vk b; obtain ⟨fb_r, fb_w, fb_w1, fb_c, fb_s, fb_d⟩ := id fb
        refine gor hL ?_; (repeat (clear hL; intro t hL; refine gor hL ?_))
        refine po_c0 (c3) ?_
        refine gor hL ?_; (repeat (clear hL; intro t hL; refine gor hL ?_)); (repeat (refine pseqk ?_; refine gor hL ?_; (repeat (clear hL; intro t hL; refine gor hL ?_))))
        refine po_callK hL ((c4 _)) ?_; clear hL; intro b' t hL; have fb' := hL.vk b'; obtain ⟨fb'_r, fb'_w, fb'_w1, fb'_c, fb'_s, fb'_d⟩ := id fb'
        refine gor hL ?_; (repeat (clear hL; intro t hL; refine gor hL ?_)); (repeat (refine pseqk ?_; refine gor hL ?_; (repeat (clear hL; intro t hL; refine gor hL ?_))))
        rw [← hQ]
        exact pfinK b' (pret_one (pres_cellL hL rfl (by repeat (first | exact Rem.head | apply Rem.tail)) rfl)) (.inr rfl) hL
    · rw [show takeM l (d + 1) (.mk 4 m [] []) ⟨p, 0⟩ = (.mk 0 0 (rText l ⟨p, 0⟩ m).1 [], (rText l ⟨p, 0⟩ m).2) from rfl]
      have c2 := fun a => rdText pr a l hb ⟨p, 0⟩ h hl m
      simp only [tkq] at *
      intro st t hL; refine pcalls_of k53 e53 (of_decide_eq_true rfl) ?_; dsimp only [c53]; generalize hQ : pfin _ _ = Q
      (refine gor hL ?_; (repeat (clear hL; intro t hL; refine gor hL ?_))); refine po_boxA hL ?_; clear hL; intro p4 t hL
      (refine gor hL ?_; (repeat (clear hL; intro t hL; refine gor hL ?_))); (with_reducible refine po_allocL hL rfl ?_); clear hL; intro p6 t hL
      refine gor hL ?_; (repeat (clear hL; intro t hL; refine gor hL ?_)); (repeat (refine pseqk ?_; refine gor hL ?_; (repeat (clear hL; intro t hL; refine gor hL ?_))))
      refine gnm ?_; rw [hdp]
      refine gor hL ?_; (repeat (clear hL; intro t hL; refine gor hL ?_)); (repeat (refine pseqk ?_; refine gor hL ?_; (repeat (clear hL; intro t hL; refine gor hL ?_))))
      refine po_callK hL ((c1 _)) ?_; clear hL; intro b0 t hL; have fb0 := hL.vk b0; obtain ⟨fb0_r, fb0_w, fb0_w1, fb0_c, fb0_s, fb0_d⟩ := id fb0
      refine gor hL ?_; (repeat (clear hL; intro t hL; refine gor hL ?_)); (repeat (refine pseqk ?_; refine gor hL ?_; (repeat (clear hL; intro t hL; refine gor hL ?_))))
      (refine gor hL ?_; (repeat (clear hL; intro t hL; refine gor hL ?_))); (with_reducible refine po_allocL hL rfl ?_); clear hL; intro p7 t hL
      refine gor hL ?_; (repeat (clear hL; intro t hL; refine gor hL ?_)); (repeat (refine pseqk ?_; refine gor hL ?_; (repeat (clear hL; intro t hL; refine gor hL ?_))))
      refine po_callK hL ((c2 _)) ?_; clear hL; intro b t hL; have fb := hL.vk b; obtain ⟨fb_r, fb_w, fb_w1, fb_c, fb_s, fb_d⟩ := id fb
      refine gor hL ?_; (repeat (clear hL; intro t hL; refine gor hL ?_)); (repeat (refine pseqk ?_; refine gor hL ?_; (repeat (clear hL; intro t hL; refine gor hL ?_))))
      rw [← hQ]
      exact pfinK b (pret_one (pres_cellL hL rfl (by repeat (first | exact Rem.head | apply Rem.tail)) rfl)) (.inr rfl) hL
    · rw [show takeM l (d + 1) (.mk 5 m [] []) ⟨p, 0⟩ = ((.mk 0 0 (bs []) (seqT (takeM l d (.mk 0 0 [] [])) (rWithin l ⟨p, 0⟩ m).1.toNat [] (rFail (rWithin l ⟨p, 0⟩ m).2 5)).1), (seqT (takeM l d (.mk 0 0 [] [])) (rWithin l ⟨p, 0⟩ m).1.toNat [] (rFail (rWithin l ⟨p, 0⟩ m).2 5)).2) from rfl]
      have hq : (rFail (rWithin l ⟨p, 0⟩ m).2 5).e ≠ 0 := rFail_e (by decide)
      have c2 := fun a => rdWithin pr a l hb ⟨p, 0⟩ h hl m
      have c3 := fun a => rdFail pr a l (rWithin l ⟨p, 0⟩ m).2 5
      have c4 := fun a => rdErr pr a l (rFail (rWithin l ⟨p, 0⟩ m).2 5)
      rw [show seqT (takeM l d (.mk 0 0 [] [])) (rWithin l ⟨p, 0⟩ m).1.toNat [] (rFail (rWithin l ⟨p, 0⟩ m).2 5) = ([], rFail (rWithin l ⟨p, 0⟩ m).2 5) from seqT_err hq]
      have hqe : ((rFail (rWithin l ⟨p, 0⟩ m).2 5).e == 0) = false := by simpa using hq
      generalize rWithin l ⟨p, 0⟩ m = R at *
      obtain ⟨n, r⟩ := R
      simp only at *
      generalize rFail r 5 = q at *
      simp only [tkq] at *
      intro st t hL; refine pcalls_of k53 e53 (of_decide_eq_true rfl) ?_; dsimp only [c53]; generalize hQ : pfin _ _ = Q
      (refine gor hL ?_; (repeat (clear hL; intro t hL; refine gor hL ?_))); refine po_boxA hL ?_; clear hL; intro p4 t hL
      (refine gor hL ?_; (repeat (clear hL; intro t hL; refine gor hL ?_))); (with_reducible refine po_allocL hL rfl ?_); clear hL; intro p6 t hL
      refine gor hL ?_; (repeat (clear hL; intro t hL; refine gor hL ?_)); (repeat (refine pseqk ?_; refine gor hL ?_; (repeat (clear hL; intro t hL; refine gor hL ?_))))
      refine gnm ?_; rw [hdp]
      refine gor hL ?_; (repeat (clear hL; intro t hL; refine gor hL ?_)); (repeat (refine pseqk ?_; refine gor hL ?_; (repeat (clear hL; intro t hL; refine gor hL ?_))))
      refine po_callK hL ((c1 _)) ?_; clear hL; intro b0 t hL; have fb0 := hL.vk b0; obtain ⟨fb0_r, fb0_w, fb0_w1, fb0_c, fb0_s, fb0_d⟩ := id fb0
      refine gor hL ?_; (repeat (clear hL; intro t hL; refine gor hL ?_)); (repeat (refine pseqk ?_; refine gor hL ?_; (repeat (clear hL; intro t hL; refine gor hL ?_))))
      (refine gor hL ?_; (repeat (clear hL; intro t hL; refine gor hL ?_))); (with_reducible refine po_allocL hL rfl ?_); clear hL; intro p7 t hL
      refine gor hL ?_; (repeat (clear hL; intro t hL; refine gor hL ?_)); (repeat (refine pseqk ?_; refine gor hL ?_; (repeat (clear hL; intro t hL; refine gor hL ?_))))
      refine po_callK hL ((c2 _)) ?_; clear hL; intro b t hL; have fb := hL.vk b; obtain ⟨fb_r, fb_w, fb_w1, fb_c, fb_s, fb_d⟩ := id fb
      refine gor hL ?_; (repeat (clear hL; intro t hL; refine gor hL ?_)); (repeat (refine pseqk ?_; refine gor hL ?_; (repeat (clear hL; intro t hL; refine gor hL ?_))))
      refine po_callK hL ((c3 _)) ?_; clear hL; intro b' t hL; have fb' := hL.vk b'; obtain ⟨fb'_r, fb'_w, fb'_w1, fb'_c, fb'_s, fb'_d⟩ := id fb'
      refine gor hL ?_; (repeat (clear hL; intro t hL; refine gor hL ?_)); (repeat (refine pseqk ?_; refine gor hL ?_; (repeat (clear hL; intro t hL; refine gor hL ?_))))
      refine pblock (pupA 0 (fun j s u => ∃ b, s = put (put (put (put (put (put (put (fun _ => .undef) (some 10) (.d (.int .i64 n))) (some 7) (ptrAt p7)) (some 6) (ptrAt p6)) (some 4) (ptrAt p4)) (some 2) (.d (.int .i64 dp))) (some 0) (ptrAt pr)) (some 11) (i64 j) ∧ Lay st [.box p7 [.d (.int .i64 0), .d (.flt .f64 0), .d (.str (bs [])), .full []], .box p6 [.d (.int .i64 0), .d (.flt .f64 0), .d (.str (bs [])), .full []], .box pr [b, .d (.int .i64 q.p), .d (.int .i64 q.e)], .vec b (rowsB l) 1] u) ⟨b', (by first | exact trimA | simp +decide only [pvc, pvi, pvt]), hL.pk⟩ ?_)
      clear hL
      rintro j s t hj ⟨b2', rfl, hL⟩
      obtain rfl : j = 0 := by omega
      refine gor hL ?_; (repeat (clear hL; intro t hL; refine gor hL ?_))
      by_cases hn0 : (0 : Int) < n
      · refine gnm ?_; rw [show decide (((0 : Nat) : Int) < n) = true by simpa using hn0]
        refine gor hL ?_; (repeat (clear hL; intro t hL; refine gor hL ?_))
        refine po_callK hL ((c4 _)) ?_; clear hL; intro b3 t hL; have fb3 := hL.vk b3; obtain ⟨fb3_r, fb3_w, fb3_w1, fb3_c, fb3_s, fb3_d⟩ := id fb3
        refine gor hL ?_; (repeat (clear hL; intro t hL; refine gor hL ?_))
        refine gnm ?_; rw [hqe]
        refine gor hL ?_; (repeat (clear hL; intro t hL; refine gor hL ?_)); (repeat (refine pseqk ?_; refine gor hL ?_; (repeat (clear hL; intro t hL; refine gor hL ?_))))
        rw [← hQ]
        exact pfinK b3 (pret_one (pres_cellL hL rfl (by repeat (first | exact Rem.head | apply Rem.tail)) rfl)) (.inr rfl) hL
      · refine gnm ?_; rw [show decide (((0 : Nat) : Int) < n) = false by simpa using hn0]
        refine gor hL ?_; (repeat (clear hL; intro t hL; refine gor hL ?_)); (repeat (refine pseqk ?_; refine gor hL ?_; (repeat (clear hL; intro t hL; refine gor hL ?_))))
        rw [← hQ]
        exact pfinK b2' (pret_one (pres_cellL hL rfl (by repeat (first | exact Rem.head | apply Rem.tail)) rfl)) (.inr rfl) hL
    · rw [show takeM l (d + 1) (.mk 6 m [] []) ⟨p, 0⟩ = (.mk 0 0 (bs []) [], ⟨p, 0⟩) from rfl]
      simp only [tkq] at *
      intro st t hL; refine pcalls_of k53 e53 (of_decide_eq_true rfl) ?_; dsimp only [c53]; generalize hQ : pfin _ _ = Q
      (refine gor hL ?_; (repeat (clear hL; intro t hL; refine gor hL ?_))); refine po_boxA hL ?_; clear hL; intro p4 t hL
      (refine gor hL ?_; (repeat (clear hL; intro t hL; refine gor hL ?_))); (with_reducible refine po_allocL hL rfl ?_); clear hL; intro p6 t hL
      refine gor hL ?_; (repeat (clear hL; intro t hL; refine gor hL ?_)); (repeat (refine pseqk ?_; refine gor hL ?_; (repeat (clear hL; intro t hL; refine gor hL ?_))))
      refine gnm ?_; rw [hdp]
      refine gor hL ?_; (repeat (clear hL; intro t hL; refine gor hL ?_)); (repeat (refine pseqk ?_; refine gor hL ?_; (repeat (clear hL; intro t hL; refine gor hL ?_))))
      refine po_callK hL ((c1 _)) ?_; clear hL; intro b0 t hL; have fb0 := hL.vk b0; obtain ⟨fb0_r, fb0_w, fb0_w1, fb0_c, fb0_s, fb0_d⟩ := id fb0
      refine gor hL ?_; (repeat (clear hL; intro t hL; refine gor hL ?_)); (repeat (refine pseqk ?_; refine gor hL ?_; (repeat (clear hL; intro t hL; refine gor hL ?_))))
      (refine gor hL ?_; (repeat (clear hL; intro t hL; refine gor hL ?_))); (with_reducible refine po_allocL hL rfl ?_); clear hL; intro p7 t hL
      refine gor hL ?_; (repeat (clear hL; intro t hL; refine gor hL ?_)); (repeat (refine pseqk ?_; refine gor hL ?_; (repeat (clear hL; intro t hL; refine gor hL ?_))))
      (apply prangeJ (0) (by omega) (fun k t => ∃ b, Lay st [.box p7 [.d (.int .i64 0), .d (.flt .f64 0), .d (.str (bs [])), .full []], .box p6 [.d (.int .i64 0), .d (.flt .f64 0), .d (.str (bs [])), .full []], .box pr [b, .d (.int .i64 p), .d (.int .i64 0)], .vec b (rowsB l) 1] t)); (· exact trimA); (· exact fun _ => rfl)
      · exact ⟨_, hL.pk⟩
      · rintro t ⟨b, hL⟩
        refine gor hL ?_; (repeat (clear hL; intro t hL; refine gor hL ?_)); (repeat (refine pseqk ?_; refine gor hL ?_; (repeat (clear hL; intro t hL; refine gor hL ?_))))
        rw [← hQ]
        exact pfinK b (pret_one (pres_cellL hL rfl (by repeat (first | exact Rem.head | apply Rem.tail)) rfl)) (.inr rfl) hL
      · intro k hk
        exact absurd hk (Nat.not_lt_zero _)
    · rw [show takeM l (d + 1) (.mk 7 m [] []) ⟨p, 0⟩ = (VT.num (rWithin l ⟨p, 0⟩ (0 - 1)).1, (rWithin l ⟨p, 0⟩ (0 - 1)).2) from rfl]
      have c2 := fun a => rdWithin pr a l hb ⟨p, 0⟩ h hl (-1)
      simp only [tkq] at *
      intro st t hL; refine pcalls_of k53 e53 (of_decide_eq_true rfl) ?_; dsimp only [c53]; generalize hQ : pfin _ _ = Q
      (refine gor hL ?_; (repeat (clear hL; intro t hL; refine gor hL ?_))); refine po_boxA hL ?_; clear hL; intro p4 t hL
      (refine gor hL ?_; (repeat (clear hL; intro t hL; refine gor hL ?_))); (with_reducible refine po_allocL hL rfl ?_); clear hL; intro p6 t hL
      refine gor hL ?_; (repeat (clear hL; intro t hL; refine gor hL ?_)); (repeat (refine pseqk ?_; refine gor hL ?_; (repeat (clear hL; intro t hL; refine gor hL ?_))))
      refine gnm ?_; rw [hdp]
      refine gor hL ?_; (repeat (clear hL; intro t hL; refine gor hL ?_)); (repeat (refine pseqk ?_; refine gor hL ?_; (repeat (clear hL; intro t hL; refine gor hL ?_))))
      refine po_callK hL ((c1 _)) ?_; clear hL; intro b0 t hL; have fb0 := hL.vk b0; obtain ⟨fb0_r, fb0_w, fb0_w1, fb0_c, fb0_s, fb0_d⟩ := id fb0
      refine gor hL ?_; (repeat (clear hL; intro t hL; refine gor hL ?_)); (repeat (refine pseqk ?_; refine gor hL ?_; (repeat (clear hL; intro t hL; refine gor hL ?_))))
      (refine gor hL ?_; (repeat (clear hL; intro t hL; refine gor hL ?_))); (with_reducible refine po_allocL hL rfl ?_); clear hL; intro p7 t hL
      refine gor hL ?_; (repeat (clear hL; intro t hL; refine gor hL ?_)); (repeat (refine pseqk ?_; refine gor hL ?_; (repeat (clear hL; intro t hL; refine gor hL ?_))))
      refine po_callK hL ((c2 _)) ?_; clear hL; intro b t hL; have fb := hL.vk b; obtain ⟨fb_r, fb_w, fb_w1, fb_c, fb_s, fb_d⟩ := id fb
      refine gor hL ?_; (repeat (clear hL; intro t hL; refine gor hL ?_)); (repeat (refine pseqk ?_; refine gor hL ?_; (repeat (clear hL; intro t hL; refine gor hL ?_))))
      rw [← hQ]
      exact pfinK b (pret_one (pres_cellL hL rfl (by repeat (first | exact Rem.head | apply Rem.tail)) rfl)) (.inr rfl) hL
    · rw [show takeM l (d + 1) (.mk 8 m [] []) ⟨p, 0⟩ = (if (rWithin l ⟨p, 0⟩ (0 - 1)).2.e = 0 then (.mk (rWithin l ⟨p, 0⟩ (0 - 1)).1 0 (bs []) [(takeM l d (.mk 0 0 [] []) (rWithin l ⟨p, 0⟩ (0 - 1)).2).1], (takeM l d (.mk 0 0 [] []) (rWithin l ⟨p, 0⟩ (0 - 1)).2).2) else (VT.zero, (rWithin l ⟨p, 0⟩ (0 - 1)).2)) from rfl]
      have c2 := fun a => rdWithin pr a l hb ⟨p, 0⟩ h hl (-1)
      have c3 := fun a => rdErr pr a l (rWithin l ⟨p, 0⟩ (-1)).2
      have hne : (rWithin l ⟨p, 0⟩ (0 - 1)).2.e ≠ 0 := fun e => by
        have h1 := rWithin_le e
        have h2 := rWithin_in hb ⟨p, 0⟩ (0 - 1)
        omega
      rw [if_neg hne]
      have hne' : ((rWithin l ⟨p, 0⟩ (-1)).2.e == 0) = false := by simpa using hne
      rw [show (0 : Int) - 1 = -1 from rfl]
      rw [VT.zero]
      generalize rWithin l ⟨p, 0⟩ (-1) = R at *
      simp only [tkq] at *
      intro st t hL; refine pcalls_of k53 e53 (of_decide_eq_true rfl) ?_; dsimp only [c53]; generalize hQ : pfin _ _ = Q
      (refine gor hL ?_; (repeat (clear hL; intro t hL; refine gor hL ?_))); refine po_boxA hL ?_; clear hL; intro p4 t hL
      (refine gor hL ?_; (repeat (clear hL; intro t hL; refine gor hL ?_))); (with_reducible refine po_allocL hL rfl ?_); clear hL; intro p6 t hL
      refine gor hL ?_; (repeat (clear hL; intro t hL; refine gor hL ?_)); (repeat (refine pseqk ?_; refine gor hL ?_; (repeat (clear hL; intro t hL; refine gor hL ?_))))
      refine gnm ?_; rw [hdp]
      refine gor hL ?_; (repeat (clear hL; intro t hL; refine gor hL ?_)); (repeat (refine pseqk ?_; refine gor hL ?_; (repeat (clear hL; intro t hL; refine gor hL ?_))))
      refine po_callK hL ((c1 _)) ?_; clear hL; intro b0 t hL; have fb0 := hL.vk b0; obtain ⟨fb0_r, fb0_w, fb0_w1, fb0_c, fb0_s, fb0_d⟩ := id fb0
      refine gor hL ?_; (repeat (clear hL; intro t hL; refine gor hL ?_)); (repeat (refine pseqk ?_; refine gor hL ?_; (repeat (clear hL; intro t hL; refine gor hL ?_))))
      (refine gor hL ?_; (repeat (clear hL; intro t hL; refine gor hL ?_))); (with_reducible refine po_allocL hL rfl ?_); clear hL; intro p7 t hL
      refine gor hL ?_; (repeat (clear hL; intro t hL; refine gor hL ?_)); (repeat (refine pseqk ?_; refine gor hL ?_; (repeat (clear hL; intro t hL; refine gor hL ?_))))
      refine po_callK hL ((c2 _)) ?_; clear hL; intro b t hL; have fb := hL.vk b; obtain ⟨fb_r, fb_w, fb_w1, fb_c, fb_s, fb_d⟩ := id fb
      refine gor hL ?_; (repeat (clear hL; intro t hL; refine gor hL ?_)); (repeat (refine pseqk ?_; refine gor hL ?_; (repeat (clear hL; intro t hL; refine gor hL ?_))))
      refine po_callK hL ((c3 _)) ?_; clear hL; intro b' t hL; have fb' := hL.vk b'; obtain ⟨fb'_r, fb'_w, fb'_w1, fb'_c, fb'_s, fb'_d⟩ := id fb'
      refine gor hL ?_; (repeat (clear hL; intro t hL; refine gor hL ?_))
      refine gnm ?_; rw [hne']
      refine gor hL ?_; (repeat (clear hL; intro t hL; refine gor hL ?_)); (repeat (refine pseqk ?_; refine gor hL ?_; (repeat (clear hL; intro t hL; refine gor hL ?_))))
      rw [← hQ]
      exact pfinK b' (pret_one (pres_cellL hL rfl (by repeat (first | exact Rem.head | apply Rem.tail)) rfl)) (.inr rfl) hL
    · have hT : takeM l (d + 1) (.mk k m [] []) ⟨p, 0⟩ = (VT.zero, ⟨p, 5⟩) := by
        have h0 : ∀ {j : Int}, j < 9 → ¬ (KT.mk k m [] []).kind = j := fun h e => by
          have : k = _ := e
          omega
        rw [takeM, if_neg (fun h : ¬ (0 : Int) = 0 => h rfl), if_neg (h0 (by decide)), if_neg (h0 (by decide)), if_neg (h0 (by decide)), if_neg (h0 (by decide)), if_neg (h0 (by decide)), if_neg (h0 (by decide)), if_neg (h0 (by decide)), if_neg (h0 (by decide)), if_neg (h0 (by decide))]; rfl
      rw [hT]
      have c2 := fun a => rdFail pr a l ⟨p, 0⟩ 5
      have c3 := fun a => rdErr pr a l ⟨p, 5⟩
      rw [show rFail ⟨p, 0⟩ 5 = ⟨p, 5⟩ from rfl] at c2
      have hk' : decide (k ≥ 9) = true := by simpa using hk9
      rw [VT.zero]
      simp only [tkq] at *
      intro st t hL; refine pcalls_of k53 e53 (of_decide_eq_true rfl) ?_; dsimp only [c53]; generalize hQ : pfin _ _ = Q
      (refine gor hL ?_; (repeat (clear hL; intro t hL; refine gor hL ?_))); refine po_boxA hL ?_; clear hL; intro p4 t hL
      (refine gor hL ?_; (repeat (clear hL; intro t hL; refine gor hL ?_))); (with_reducible refine po_allocL hL rfl ?_); clear hL; intro p6 t hL
      refine gor hL ?_; (repeat (clear hL; intro t hL; refine gor hL ?_)); (repeat (refine pseqk ?_; refine gor hL ?_; (repeat (clear hL; intro t hL; refine gor hL ?_))))
      refine gnm ?_; rw [hdp]
      refine gor hL ?_; (repeat (clear hL; intro t hL; refine gor hL ?_)); (repeat (refine pseqk ?_; refine gor hL ?_; (repeat (clear hL; intro t hL; refine gor hL ?_))))
      refine gnm ?_; rw [hk']
      refine gor hL ?_; (repeat (clear hL; intro t hL; refine gor hL ?_)); (repeat (refine pseqk ?_; refine gor hL ?_; (repeat (clear hL; intro t hL; refine gor hL ?_))))
      refine po_callK hL ((c2 _)) ?_; clear hL; intro b t hL; have fb := hL.vk b; obtain ⟨fb_r, fb_w, fb_w1, fb_c, fb_s, fb_d⟩ := id fb
      refine gor hL ?_; (repeat (clear hL; intro t hL; refine gor hL ?_)); (repeat (refine pseqk ?_; refine gor hL ?_; (repeat (clear hL; intro t hL; refine gor hL ?_))))
      refine po_callK hL ((c3 _)) ?_; clear hL; intro b' t hL; have fb' := hL.vk b'; obtain ⟨fb'_r, fb'_w, fb'_w1, fb'_c, fb'_s, fb'_d⟩ := id fb'
      refine gor hL ?_; (repeat (clear hL; intro t hL; refine gor hL ?_)); (repeat (refine pseqk ?_; refine gor hL ?_; (repeat (clear hL; intro t hL; refine gor hL ?_))))
      rw [← hQ]
      exact pfinK b' (pret_one (pres_cellL hL rfl (by repeat (first | exact Rem.head | apply Rem.tail)) rfl)) (.inr rfl) hL
  | enum d n hn =>
    intro dp hd pr a s h
    refine err dp hd pr a s h fun he => ?_
    obtain ⟨p, e⟩ := s
    simp only at he
    subst he
    have hdp : decide (dp < 1) = false := by simp; omega
    refine ⟨rd_sat _ _ _ _ _, ?_⟩
    have c1 := fun a => rdErr pr a l ⟨p, 0⟩
    have c2 := fun a => rdWithin pr a l hb ⟨p, 0⟩ h hl (n.length - 1)
    rw [show takeM l (d + 1) (.mk 7 0 n []) ⟨p, 0⟩ = (VT.num (rWithin l ⟨p, 0⟩ (n.length - 1)).1, (rWithin l ⟨p, 0⟩ (n.length - 1)).2) from rfl]
    simp only [tkq] at *
    intro st t hL; refine pcalls_of k53 e53 (of_decide_eq_true rfl) ?_; dsimp only [c53]; generalize hQ : pfin _ _ = Q
    (refine gor hL ?_; (repeat (clear hL; intro t hL; refine gor hL ?_))); refine po_boxA hL ?_; clear hL; intro p4 t hL
    (refine gor hL ?_; (repeat (clear hL; intro t hL; refine gor hL ?_))); (with_reducible refine po_allocL hL rfl ?_); clear hL; intro p6 t hL
    refine gor hL ?_; (repeat (clear hL; intro t hL; refine gor hL ?_)); (repeat (refine pseqk ?_; refine gor hL ?_; (repeat (clear hL; intro t hL; refine gor hL ?_))))
    refine gnm ?_; rw [hdp]
    refine gor hL ?_; (repeat (clear hL; intro t hL; refine gor hL ?_)); (repeat (refine pseqk ?_; refine gor hL ?_; (repeat (clear hL; intro t hL; refine gor hL ?_))))
    refine po_callK hL ((c1 _)) ?_; clear hL; intro b0 t hL; have fb0 := hL.vk b0; obtain ⟨fb0_r, fb0_w, fb0_w1, fb0_c, fb0_s, fb0_d⟩ := id fb0
    refine gor hL ?_; (repeat (clear hL; intro t hL; refine gor hL ?_)); (repeat (refine pseqk ?_; refine gor hL ?_; (repeat (clear hL; intro t hL; refine gor hL ?_))))
    (refine gor hL ?_; (repeat (clear hL; intro t hL; refine gor hL ?_))); (with_reducible refine po_allocL hL rfl ?_); clear hL; intro p7 t hL
    refine gor hL ?_; (repeat (clear hL; intro t hL; refine gor hL ?_)); (repeat (refine pseqk ?_; refine gor hL ?_; (repeat (clear hL; intro t hL; refine gor hL ?_))))
    refine gnm ?_; rw [IntWalk.i64_in ((n.length : Int) - 1) (by omega)]
    refine po_callK hL ((c2 _)) ?_; clear hL; intro b t hL; have fb := hL.vk b; obtain ⟨fb_r, fb_w, fb_w1, fb_c, fb_s, fb_d⟩ := id fb
    refine gor hL ?_; (repeat (clear hL; intro t hL; refine gor hL ?_)); (repeat (refine pseqk ?_; refine gor hL ?_; (repeat (clear hL; intro t hL; refine gor hL ?_))))
    rw [← hQ]
    exact pfinK b (pret_one (pres_cellL hL rfl (by repeat (first | exact Rem.head | apply Rem.tail)) rfl)) (.inr rfl) hL
  | seq d m o hm ho ih =>
    intro dp hd pr a s h
    refine err dp hd pr a s h fun he => ?_
    obtain ⟨p, e⟩ := s
    simp only at he
    subst he
    have hdp : decide (dp < 1) = false := by simp; omega
    refine ⟨rd_sat _ _ _ _ _, ?_⟩
    have c1 := fun a => rdErr pr a l ⟨p, 0⟩
    have c2 := fun a => rdWithin pr a l hb ⟨p, 0⟩ h hl m
    have hok := rWithin_ok h m
    have hn := rWithin_in hb ⟨p, 0⟩ m
    rw [show takeM l (d + 1) (.mk 5 m [] [o]) ⟨p, 0⟩ = (.mk 0 0 (bs []) (seqT (takeM l d o) (rWithin l ⟨p, 0⟩ m).1.toNat [] (rWithin l ⟨p, 0⟩ m).2).1, (seqT (takeM l d o) (rWithin l ⟨p, 0⟩ m).1.toNat [] (rWithin l ⟨p, 0⟩ m).2).2) from rfl]
    generalize rWithin l ⟨p, 0⟩ m = R at *
    obtain ⟨n, r⟩ := R
    simp only at *
    obtain ⟨n, rfl⟩ := Int.eq_ofNat_of_zero_le hn.1
    rw [Int.toNat_natCast] at *
    generalize hF : seqT (takeM l d o) n [] r = F at *
    simp only [tkq] at c1 c2 ⊢
    intro st t hL; refine pcalls_of k53 e53 (of_decide_eq_true rfl) ?_; dsimp only [c53]; generalize hQ : pfin _ _ = Q
    (refine gor hL ?_; (repeat (clear hL; intro t hL; refine gor hL ?_))); refine po_boxA hL ?_; clear hL; intro p4 t hL
    (refine gor hL ?_; (repeat (clear hL; intro t hL; refine gor hL ?_))); (with_reducible refine po_allocL hL rfl ?_); clear hL; intro p6 t hL
    refine gor hL ?_; (repeat (clear hL; intro t hL; refine gor hL ?_)); (repeat (refine pseqk ?_; refine gor hL ?_; (repeat (clear hL; intro t hL; refine gor hL ?_))))
    refine gnm ?_; rw [hdp]
    refine gor hL ?_; (repeat (clear hL; intro t hL; refine gor hL ?_)); (repeat (refine pseqk ?_; refine gor hL ?_; (repeat (clear hL; intro t hL; refine gor hL ?_))))
    refine po_callK hL ((c1 _)) ?_; clear hL; intro b0 t hL; have fb0 := hL.vk b0; obtain ⟨fb0_r, fb0_w, fb0_w1, fb0_c, fb0_s, fb0_d⟩ := id fb0
    refine gor hL ?_; (repeat (clear hL; intro t hL; refine gor hL ?_)); (repeat (refine pseqk ?_; refine gor hL ?_; (repeat (clear hL; intro t hL; refine gor hL ?_))))
    (refine gor hL ?_; (repeat (clear hL; intro t hL; refine gor hL ?_))); (with_reducible refine po_allocL hL rfl ?_); clear hL; intro p7 t hL
    refine gor hL ?_; (repeat (clear hL; intro t hL; refine gor hL ?_)); (repeat (refine pseqk ?_; refine gor hL ?_; (repeat (clear hL; intro t hL; refine gor hL ?_))))
    refine po_callK hL ((c2 _)) ?_; clear hL; intro b t hL; have fb := hL.vk b; obtain ⟨fb_r, fb_w, fb_w1, fb_c, fb_s, fb_d⟩ := id fb
    refine gor hL ?_; (repeat (clear hL; intro t hL; refine gor hL ?_)); (repeat (refine pseqk ?_; refine gor hL ?_; (repeat (clear hL; intro t hL; refine gor hL ?_))))
    refine pblock (pupA n (fun j s u => ∃ b v os q, seqT (takeM l d o) (n - j) os q = F ∧ q.ok l ∧ os.length ≤ j ∧ s = put (put (put (put (put (put (put (fun _ => .undef) (some 10) (.d (.int .i64 n))) (some 7) (ptrAt p7)) (some 6) (ptrAt p6)) (some 4) (ptrAt p4)) (some 2) (.d (.int .i64 dp))) (some 0) (ptrAt pr)) (some 11) (i64 j) ∧ Lay st [.box p7 [.d (.int .i64 0), .d (.flt .f64 0), .d (.str (bs [])), v], .vec v (os.map VT.row) 4, .box p4 [.d (.int .u8 5), .d (.int .i64 m), .d (.sl []), .d (.sl [o.row])], .box p6 [.d (.int .i64 0), .d (.flt .f64 0), .d (.str (bs [])), .full []], .box pr [b, .d (.int .i64 q.p), .d (.int .i64 q.e)], .vec b (rowsB l) 1] u) ⟨b, .full [], [], r, hF, hok, Nat.le_refl _, (by first | exact trimA | simp +decide only [pvc, pvi, pvt]), (hL.full [] 4).pk⟩ ?_)
    clear hL
    rintro j s t hj ⟨b, v, os, q, hJ, hqo, hol, rfl, hL⟩
    have fv := hL.vk v
    obtain ⟨fv_r, fv_w, fv_w1, fv_c, fv_s, fv_d⟩ := id fv
    refine gor hL ?_; (repeat (clear hL; intro t hL; refine gor hL ?_))
    by_cases hjn : j < n
    · have c3 := fun a => rdErr pr a l q
      simp only [rdF] at c3
      refine gnm ?_; rw [show decide ((j : Int) < (n : Nat)) = true by simpa using hjn]
      refine gor hL ?_; (repeat (clear hL; intro t hL; refine gor hL ?_))
      refine po_callK hL ((c3 _)) ?_; clear hL; intro b3 t hL; have fb3 := hL.vk b3; obtain ⟨fb3_r, fb3_w, fb3_w1, fb3_c, fb3_s, fb3_d⟩ := id fb3
      refine gor hL ?_; (repeat (clear hL; intro t hL; refine gor hL ?_))
      by_cases hqe : q.e = 0
      · refine gnm ?_; rw [show (q.e == 0) = true by simpa using hqe]
        rw [show n - j = (n - (j + 1)) + 1 by omega, seqT, if_pos hqe] at hJ
        have hqo2 := takeM_ok d o q hqo
        have c4 := ih (dp - 1) (by omega) pr b3 q hqo
        simp only [rdF, KT.av_eq] at c4
        generalize takeM l d o q = TK at *
        obtain ⟨x, q2⟩ := TK
        simp only [VT.av_eq] at c4 hJ hqo2
        refine gor hL ?_; (repeat (clear hL; intro t hL; refine gor hL ?_))
        refine pblock ?_
        refine gor hL ?_; (repeat (clear hL; intro t hL; refine gor hL ?_))
        refine po_loadSt (H := [.box p7 [.d (.int .i64 0), .d (.flt .f64 0), .d (.str (bs [])), v], .box p4 [.d (.int .u8 5), .d (.int .i64 m), .d (.sl []), .d (.sl [o.row])]]) (Stb.start _ (fun _ => .undef) t) hL rfl rfl (by repeat (first | exact Rem.head | apply Rem.tail)) (by (repeat (first | (with_reducible exact Pick.nil) | ((with_reducible apply Pick.cons); · (repeat (first | exact Rem.head | apply Rem.tail)))))) rfl (fun hS => ?_)
        refine gor hL ?_; (repeat (clear hL; intro t hL; refine gor hL ?_))
        refine po_loadSt hS hL rfl rfl (by repeat (first | exact Rem.head | apply Rem.tail)) (by (repeat (first | (with_reducible exact Pick.nil) | ((with_reducible apply Pick.cons); · (repeat (first | exact Rem.head | apply Rem.tail)))))) rfl (fun hS => ?_)
        refine gor hL ?_; (repeat (clear hL; intro t hL; refine gor hL ?_))
        refine po_iaddr0 (l := [o]) (f := KT.row) rfl (KT.row_len o) ?_
        refine gor hL ?_; (repeat (clear hL; intro t hL; refine gor hL ?_))
        refine gnm ?_; rw [IntWalk.i64_in (dp - 1) (by omega)]
        refine po_callStA hS hL c4 ?_; clear hL; intro b4 t hL hS
        refine gor hL ?_; (repeat (clear hL; intro t hL; refine gor hL ?_))
        have hr4 : ∀ r ∈ os.map VT.row, r.length = 4 := fun r hr => by
          obtain ⟨i, _, rfl⟩ := List.mem_map.1 hr; exact VT.row_len _
        refine po_appA hL hr4 ?_ ?_; (· simp; omega); clear hL; intro v' t f' hL; obtain ⟨f'_r, f'_w, f'_w1, f'_c, f'_s, f'_d⟩ := id f'
        rw [show os.map VT.row ++ [[.int .i64 x.n, .flt .f64 x.f, .str x.s, .sl (x.of.map VT.row)]] = (os ++ [x]).map VT.row by rw [List.map_append, List.map_cons, VT.row_eq x]; rfl] at hL f' f'_w1
        refine gor hL ?_; (repeat (clear hL; intro t hL; refine gor hL ?_))
        refine po_storeoL hL rfl rfl (by repeat (first | exact Rem.head | apply Rem.tail)) f'_c ⟨rfl, by simp [f'_s]⟩ (of_decide_eq_true rfl) rfl (fun t hL => ?_)
        refine gor hL ?_; (repeat (clear hL; intro t hL; refine gor hL ?_))
        refine gnm ?_; rw [IntWalk.i64_in ((j : Int) + 1) (by omega)]
        exact ⟨hjn, b4, v', os ++ [x], q2, hJ, hqo2, by simp; omega, (by first | exact trimA | simp +decide only [pvc, pvi, pvt]), hL.pk⟩
      · refine gnm ?_; rw [show (q.e == 0) = false by simpa using hqe]
        rw [seqT_err hqe] at hJ
        subst hJ
        simp only at hQ
        refine gor hL ?_; (repeat (clear hL; intro t hL; refine gor hL ?_)); (repeat (refine pseqk ?_; refine gor hL ?_; (repeat (clear hL; intro t hL; refine gor hL ?_))))
        rw [← hQ]
        exact pfinK b3 (pret_one (pres_cellL hL rfl (by repeat (first | exact Rem.head | apply Rem.tail)) rfl)) (.inr (by simp only [pvwk, List.map_cons, List.map_nil, fv_w1])) hL
    · refine gnm ?_; rw [show decide ((j : Int) < (n : Nat)) = false by simpa using hjn]
      rw [show n - j = 0 by omega] at hJ
      have hJ' : (os, q) = F := hJ
      subst hJ'
      simp only at hQ
      refine gor hL ?_; (repeat (clear hL; intro t hL; refine gor hL ?_)); (repeat (refine pseqk ?_; refine gor hL ?_; (repeat (clear hL; intro t hL; refine gor hL ?_))))
      rw [← hQ]
      exact pfinK b (pret_one (pres_cellL hL rfl (by repeat (first | exact Rem.head | apply Rem.tail)) rfl)) (.inr (by simp only [pvwk, List.map_cons, List.map_nil, fv_w1])) hL
  | reco d k n o hk hlo ho ih =>
    intro dp hd pr a s h
    refine err dp hd pr a s h fun he => ?_
    obtain ⟨p, e⟩ := s
    simp only at he
    subst he
    have hdp : decide (dp < 1) = false := by simp; omega
    refine ⟨rd_sat _ _ _ _ _, ?_⟩
    have c1 := fun a => rdErr pr a l ⟨p, 0⟩
    rcases hk with rfl | rfl
    · rw [show takeM l (d + 1) (.mk 6 0 n o) ⟨p, 0⟩ = (.mk 0 0 (bs []) (recoT (takeM l d) o [] ⟨p, 0⟩).1, (recoT (takeM l d) o [] ⟨p, 0⟩).2) from rfl]
      generalize hF : recoT (takeM l d) o [] ⟨p, 0⟩ = F at *
      simp only [tkq] at c1 ⊢
      intro st t hL; refine pcalls_of k53 e53 (of_decide_eq_true rfl) ?_; dsimp only [c53]; generalize hQ : pfin _ _ = Q
      (refine gor hL ?_; (repeat (clear hL; intro t hL; refine gor hL ?_))); refine po_boxA hL ?_; clear hL; intro p4 t hL
      (refine gor hL ?_; (repeat (clear hL; intro t hL; refine gor hL ?_))); (with_reducible refine po_allocL hL rfl ?_); clear hL; intro p6 t hL
      refine gor hL ?_; (repeat (clear hL; intro t hL; refine gor hL ?_)); (repeat (refine pseqk ?_; refine gor hL ?_; (repeat (clear hL; intro t hL; refine gor hL ?_))))
      refine gnm ?_; rw [hdp]
      refine gor hL ?_; (repeat (clear hL; intro t hL; refine gor hL ?_)); (repeat (refine pseqk ?_; refine gor hL ?_; (repeat (clear hL; intro t hL; refine gor hL ?_))))
      refine po_callK hL ((c1 _)) ?_; clear hL; intro b0 t hL; have fb0 := hL.vk b0; obtain ⟨fb0_r, fb0_w, fb0_w1, fb0_c, fb0_s, fb0_d⟩ := id fb0
      refine gor hL ?_; (repeat (clear hL; intro t hL; refine gor hL ?_)); (repeat (refine pseqk ?_; refine gor hL ?_; (repeat (clear hL; intro t hL; refine gor hL ?_))))
      (refine gor hL ?_; (repeat (clear hL; intro t hL; refine gor hL ?_))); (with_reducible refine po_allocL hL rfl ?_); clear hL; intro p7 t hL
      refine gor hL ?_; (repeat (clear hL; intro t hL; refine gor hL ?_)); (repeat (refine pseqk ?_; refine gor hL ?_; (repeat (clear hL; intro t hL; refine gor hL ?_))))
      (apply prangeJ (o.length) (by omega) (fun j t => ∃ b v os q, recoT (takeM l d) (o.drop j) os q = F ∧ q.ok l ∧ os.length ≤ j ∧ Lay st [.box p7 [.d (.int .i64 0), .d (.flt .f64 0), .d (.str (bs [])), v], .vec v (os.map VT.row) 4, .box p6 [.d (.int .i64 0), .d (.flt .f64 0), .d (.str (bs [])), .full []], .box pr [b, .d (.int .i64 q.p), .d (.int .i64 q.e)], .vec b (rowsB l) 1] t)); (· exact trimA); (· exact fun _ => rfl)
      · exact ⟨b0, .full [], [], ⟨p, 0⟩, hF, h, Nat.le_refl _, (hL.full [] 4).pk⟩
      · rintro t ⟨b, v, os, q, hJ, hqo, hol, hL⟩
        rw [List.drop_length] at hJ
        have hJ' : (os, q) = F := hJ
        subst hJ'
        simp only at hQ
        have fv := hL.vk v
        obtain ⟨fv_r, fv_w, fv_w1, fv_c, fv_s, fv_d⟩ := id fv
        refine gor hL ?_; (repeat (clear hL; intro t hL; refine gor hL ?_)); (repeat (refine pseqk ?_; refine gor hL ?_; (repeat (clear hL; intro t hL; refine gor hL ?_))))
        rw [← hQ]
        exact pfinK b (pret_one (pres_cellL hL rfl (by repeat (first | exact Rem.head | apply Rem.tail)) rfl)) (.inr (by simp only [pvwk, List.map_cons, List.map_nil, fv_w1])) hL
      · rintro j hj t ⟨b, v, os, q, hJ, hqo, hol, hL⟩
        obtain ⟨y, hy, hym⟩ := elem_at hj
        have hyl := List.getElem?_eq_some_iff.1 hy
        rw [show o.drop j = y :: o.drop (j + 1) by rw [← hyl.2]; exact List.drop_eq_getElem_cons hj, recoT] at hJ
        have hqo2 := takeM_ok d y q hqo
        have c4 := fun b => ih y hym (dp - 1) (by omega) pr b q hqo
        simp only [rdF, KT.av_eq] at c4
        generalize takeM l d y q = TK at *
        obtain ⟨x, q2⟩ := TK
        simp only [VT.av_eq] at c4 hJ hqo2
        have fv := hL.vk v
        obtain ⟨fv_r, fv_w, fv_w1, fv_c, fv_s, fv_d⟩ := id fv
        refine pblock ?_
        (refine gor hL ?_; (repeat (clear hL; intro t hL; refine gor hL ?_))); (with_reducible refine po_allocL hL rfl ?_); clear hL; intro p14 t hL
        refine gor hL ?_; (repeat (clear hL; intro t hL; refine gor hL ?_))
        refine po_loadSt (H := [.box p7 [.d (.int .i64 0), .d (.flt .f64 0), .d (.str (bs [])), v], .box p14 [.d (.int .u8 y.kind), .d (.int .i64 y.most), .d (.sl (y.names.map fun s => [.str s])), .d (.sl (y.of.map KT.row))]]) (Stb.start _ (fun _ => .undef) t) hL rfl rfl (by repeat (first | exact Rem.head | apply Rem.tail)) (by (repeat (first | (with_reducible exact Pick.nil) | ((with_reducible apply Pick.cons); · (repeat (first | exact Rem.head | apply Rem.tail)))))) rfl (fun hS => ?_)
        refine gor hL ?_; (repeat (clear hL; intro t hL; refine gor hL ?_))
        refine po_loadSt hS hL rfl rfl (by repeat (first | exact Rem.head | apply Rem.tail)) (by (repeat (first | (with_reducible exact Pick.nil) | ((with_reducible apply Pick.cons); · (repeat (first | exact Rem.head | apply Rem.tail)))))) rfl (fun hS => ?_)
        refine gor hL ?_; (repeat (clear hL; intro t hL; refine gor hL ?_))
        refine gnm ?_; rw [IntWalk.i64_in (dp - 1) (by omega)]
        refine po_callStA hS hL (c4 _) ?_; clear hL; intro b4 t hL hS
        refine gor hL ?_; (repeat (clear hL; intro t hL; refine gor hL ?_))
        have hr4 : ∀ r ∈ os.map VT.row, r.length = 4 := fun r hr => by
          obtain ⟨i, _, rfl⟩ := List.mem_map.1 hr; exact VT.row_len _
        refine po_appA hL hr4 ?_ ?_; (· simp; omega); clear hL; intro v' t f' hL; obtain ⟨f'_r, f'_w, f'_w1, f'_c, f'_s, f'_d⟩ := id f'
        rw [show os.map VT.row ++ [[.int .i64 x.n, .flt .f64 x.f, .str x.s, .sl (x.of.map VT.row)]] = (os ++ [x]).map VT.row by rw [List.map_append, List.map_cons, VT.row_eq x]; rfl] at hL f' f'_w1
        refine gor hL ?_; (repeat (clear hL; intro t hL; refine gor hL ?_))
        refine po_storeoL hL rfl rfl (by repeat (first | exact Rem.head | apply Rem.tail)) f'_c ⟨rfl, by simp [f'_s]⟩ (of_decide_eq_true rfl) rfl (fun t hL => ?_)
        refine gor hL ?_; (repeat (clear hL; intro t hL; refine gor hL ?_))
        exact ⟨⟨b4, v', os ++ [x], q2, hJ, hqo2, by simp; omega, hL.pk⟩, tr2⟩
    · have c2 := fun a => rdWithin pr a l hb ⟨p, 0⟩ h hl (o.length - 1)
      have hok := rWithin_ok h (o.length - 1)
      have hn := rWithin_in hb ⟨p, 0⟩ (o.length - 1)
      have hle := rWithin_le (l := l) (s := ⟨p, 0⟩) (m := o.length - 1)
      rw [show takeM l (d + 1) (.mk 8 0 n o) ⟨p, 0⟩ = (if (rWithin l ⟨p, 0⟩ (o.length - 1)).2.e = 0 then (.mk (rWithin l ⟨p, 0⟩ (o.length - 1)).1 0 (bs []) [(takeM l d (o.getD (rWithin l ⟨p, 0⟩ (o.length - 1)).1.toNat (.mk 0 0 [] [])) (rWithin l ⟨p, 0⟩ (o.length - 1)).2).1], (takeM l d (o.getD (rWithin l ⟨p, 0⟩ (o.length - 1)).1.toNat (.mk 0 0 [] [])) (rWithin l ⟨p, 0⟩ (o.length - 1)).2).2) else (VT.zero, (rWithin l ⟨p, 0⟩ (o.length - 1)).2)) from rfl]
      generalize rWithin l ⟨p, 0⟩ (o.length - 1) = R at *
      obtain ⟨n', r⟩ := R
      simp only at *
      obtain ⟨n', rfl⟩ := Int.eq_ofNat_of_zero_le hn.1
      rw [Int.toNat_natCast] at *
      have c3 := fun a => rdErr pr a l r
      by_cases hre : r.e = 0
      · rw [if_pos hre]
        obtain ⟨y, hy, hym⟩ := elem_at (l := o) (k := n') (by have := hle hre; omega)
        rw [show o.getD n' (.mk 0 0 [] []) = y by rw [List.getD_eq_getElem?_getD, hy]; rfl]
        have c4 := fun b => ih y hym (dp - 1) (by omega) pr b r hok
        have hre' : (r.e == 0) = true := by simpa using hre
        generalize takeM l d y r = TK at *
        obtain ⟨x, q2⟩ := TK
        simp only [tkq] at c1 c2 c3 c4 ⊢
        intro st t hL; refine pcalls_of k53 e53 (of_decide_eq_true rfl) ?_; dsimp only [c53]; generalize hQ : pfin _ _ = Q
        (refine gor hL ?_; (repeat (clear hL; intro t hL; refine gor hL ?_))); refine po_boxA hL ?_; clear hL; intro p4 t hL
        (refine gor hL ?_; (repeat (clear hL; intro t hL; refine gor hL ?_))); (with_reducible refine po_allocL hL rfl ?_); clear hL; intro p6 t hL
        refine gor hL ?_; (repeat (clear hL; intro t hL; refine gor hL ?_)); (repeat (refine pseqk ?_; refine gor hL ?_; (repeat (clear hL; intro t hL; refine gor hL ?_))))
        refine gnm ?_; rw [hdp]
        refine gor hL ?_; (repeat (clear hL; intro t hL; refine gor hL ?_)); (repeat (refine pseqk ?_; refine gor hL ?_; (repeat (clear hL; intro t hL; refine gor hL ?_))))
        refine po_callK hL ((c1 _)) ?_; clear hL; intro b0 t hL; have fb0 := hL.vk b0; obtain ⟨fb0_r, fb0_w, fb0_w1, fb0_c, fb0_s, fb0_d⟩ := id fb0
        refine gor hL ?_; (repeat (clear hL; intro t hL; refine gor hL ?_)); (repeat (refine pseqk ?_; refine gor hL ?_; (repeat (clear hL; intro t hL; refine gor hL ?_))))
        (refine gor hL ?_; (repeat (clear hL; intro t hL; refine gor hL ?_))); (with_reducible refine po_allocL hL rfl ?_); clear hL; intro p7 t hL
        refine gor hL ?_; (repeat (clear hL; intro t hL; refine gor hL ?_)); (repeat (refine pseqk ?_; refine gor hL ?_; (repeat (clear hL; intro t hL; refine gor hL ?_))))
        refine gnm ?_; rw [IntWalk.i64_in ((o.length : Int) - 1) (by omega)]
        refine po_callK hL ((c2 _)) ?_; clear hL; intro b t hL; have fb := hL.vk b; obtain ⟨fb_r, fb_w, fb_w1, fb_c, fb_s, fb_d⟩ := id fb
        refine gor hL ?_; (repeat (clear hL; intro t hL; refine gor hL ?_)); (repeat (refine pseqk ?_; refine gor hL ?_; (repeat (clear hL; intro t hL; refine gor hL ?_))))
        refine po_callK hL ((c3 _)) ?_; clear hL; intro b2' t hL; have fb2' := hL.vk b2'; obtain ⟨fb2'_r, fb2'_w, fb2'_w1, fb2'_c, fb2'_s, fb2'_d⟩ := id fb2'
        refine gor hL ?_; (repeat (clear hL; intro t hL; refine gor hL ?_))
        refine gnm ?_; rw [hre']
        refine gor hL ?_; (repeat (clear hL; intro t hL; refine gor hL ?_)); (repeat (refine pseqk ?_; refine gor hL ?_; (repeat (clear hL; intro t hL; refine gor hL ?_))))
        refine gnm ?_; rw [IntWalk.i64_in (dp - 1) (by omega)]
        refine po_callK hL ((c4 _)) ?_; clear hL; intro b4 t hL; have fb4 := hL.vk b4; obtain ⟨fb4_r, fb4_w, fb4_w1, fb4_c, fb4_s, fb4_d⟩ := id fb4
        refine gor hL ?_; (repeat (clear hL; intro t hL; refine gor hL ?_))
        refine gor hL ?_; (repeat (clear hL; intro t hL; refine gor hL ?_)); (repeat (refine pseqk ?_; refine gor hL ?_; (repeat (clear hL; intro t hL; refine gor hL ?_))))
        rw [← hQ]
        exact pfinK b4 (pret_one (pres_cellL hL rfl (by repeat (first | exact Rem.head | apply Rem.tail)) rfl)) ((.inr (by simp only [pvwk, List.map_cons, List.map_nil, VT.row_eq, VT.cs]))) hL
      · rw [if_neg hre]
        have hre' : (r.e == 0) = false := by simpa using hre
        rw [VT.zero]
        simp only [tkq] at c1 c2 c3 ⊢
        intro st t hL; refine pcalls_of k53 e53 (of_decide_eq_true rfl) ?_; dsimp only [c53]; generalize hQ : pfin _ _ = Q
        (refine gor hL ?_; (repeat (clear hL; intro t hL; refine gor hL ?_))); refine po_boxA hL ?_; clear hL; intro p4 t hL
        (refine gor hL ?_; (repeat (clear hL; intro t hL; refine gor hL ?_))); (with_reducible refine po_allocL hL rfl ?_); clear hL; intro p6 t hL
        refine gor hL ?_; (repeat (clear hL; intro t hL; refine gor hL ?_)); (repeat (refine pseqk ?_; refine gor hL ?_; (repeat (clear hL; intro t hL; refine gor hL ?_))))
        refine gnm ?_; rw [hdp]
        refine gor hL ?_; (repeat (clear hL; intro t hL; refine gor hL ?_)); (repeat (refine pseqk ?_; refine gor hL ?_; (repeat (clear hL; intro t hL; refine gor hL ?_))))
        refine po_callK hL ((c1 _)) ?_; clear hL; intro b0 t hL; have fb0 := hL.vk b0; obtain ⟨fb0_r, fb0_w, fb0_w1, fb0_c, fb0_s, fb0_d⟩ := id fb0
        refine gor hL ?_; (repeat (clear hL; intro t hL; refine gor hL ?_)); (repeat (refine pseqk ?_; refine gor hL ?_; (repeat (clear hL; intro t hL; refine gor hL ?_))))
        (refine gor hL ?_; (repeat (clear hL; intro t hL; refine gor hL ?_))); (with_reducible refine po_allocL hL rfl ?_); clear hL; intro p7 t hL
        refine gor hL ?_; (repeat (clear hL; intro t hL; refine gor hL ?_)); (repeat (refine pseqk ?_; refine gor hL ?_; (repeat (clear hL; intro t hL; refine gor hL ?_))))
        refine gnm ?_; rw [IntWalk.i64_in ((o.length : Int) - 1) (by omega)]
        refine po_callK hL ((c2 _)) ?_; clear hL; intro b t hL; have fb := hL.vk b; obtain ⟨fb_r, fb_w, fb_w1, fb_c, fb_s, fb_d⟩ := id fb
        refine gor hL ?_; (repeat (clear hL; intro t hL; refine gor hL ?_)); (repeat (refine pseqk ?_; refine gor hL ?_; (repeat (clear hL; intro t hL; refine gor hL ?_))))
        refine po_callK hL ((c3 _)) ?_; clear hL; intro b2' t hL; have fb2' := hL.vk b2'; obtain ⟨fb2'_r, fb2'_w, fb2'_w1, fb2'_c, fb2'_s, fb2'_d⟩ := id fb2'
        refine gor hL ?_; (repeat (clear hL; intro t hL; refine gor hL ?_))
        refine gnm ?_; rw [hre']
        refine gor hL ?_; (repeat (clear hL; intro t hL; refine gor hL ?_)); (repeat (refine pseqk ?_; refine gor hL ?_; (repeat (clear hL; intro t hL; refine gor hL ?_))))
        rw [← hQ]
        exact pfinK b2' (pret_one (pres_cellL hL rfl (by repeat (first | exact Rem.head | apply Rem.tail)) rfl)) (.inr rfl) hL

end Go.Pv
