/- Functions of the program, by value. No condition. -/
import Derived.Test.YtidelhpljjjjmaaW6
namespace Go.Pv
open Go.Proofs
set_option maxRecDepth 100000
set_option maxHeartbeats 8000000

/-- prompter/wire.Read -/
abbrev c52_0 : PCode :=
 (.seq (.region [⟨(.some 3), (.bsl 1 []), .none⟩,
   ⟨(.some 4), (.mov (.t 0)), .none⟩,
   ⟨(.some 5), (.app 1 1 (.t 3) (.t 4)), .none⟩,
   ⟨(.some 6), (.bld [(.full []), (.d (.int .i64 0)), (.d (.int .i64 0))] [(0, (1, (.t 5)))]), .none⟩,
   ⟨(.some 7), (.box 3 (.t 6)), .none⟩,
   ⟨(.some 2), (.mov (.t 7)), .none⟩])
 .ret)
def c52 : PFun := ⟨
 (.seq (.region [⟨(.some 2), (.mov (.c (.d .nilp))), .none⟩])
 c52_0),
 1, 8, [(.tmp 2)]⟩

/-- (*prompter/wire.Reader).End -/
abbrev c54_2 : PCode :=
 (.seq (.region [⟨(.some 2), (.mov (.c (.d (.int .i64 12)))), .none⟩])
 .ret)
abbrev c54_1 : PCode :=
 (.cond (.t 23)
  c54_2
  .skip)
abbrev c54_3 : PCode :=
 (.keep [0] (.seq (.region [⟨(.some 24), (.mov (.t 0)), .none⟩,
   ⟨(.some 25), (.call0 69 [(.t 24)]), .none⟩,
   ⟨(.some 2), (.mov (.t 25)), .none⟩])
 .ret))
abbrev c54_0 : PCode :=
 (.seq (.seq (.region [⟨(.some 3), (.mov (.t 0)), .none⟩,
   ⟨(.some 4), (.isNil 0 .true (.t 3)), .none⟩,
   ⟨(.some 5), (.mov (.t 4)), .none⟩,
   ⟨(.some 6), (.mov (.t 0)), (.some (5, .true))⟩,
   ⟨(.some 7), (.nilchk (.t 6)), (.some (5, .true))⟩,
   ⟨(.some 8), (.faddr 2 (.t 7)), (.some (5, .true))⟩,
   ⟨(.some 9), (.load .false 1 (.t 8) .false), (.some (5, .true))⟩,
   ⟨(.some 10), (.bin .eql (.t 9) (.c (.d (.int .i64 0)))), (.some (5, .true))⟩,
   ⟨(.some 11), (.pick (.t 5) (.t 10) (.c (.d (.bool .false)))), .none⟩,
   ⟨(.some 12), (.mov (.t 11)), .none⟩,
   ⟨(.some 13), (.mov (.t 0)), (.some (12, .true))⟩,
   ⟨(.some 14), (.nilchk (.t 13)), (.some (12, .true))⟩,
   ⟨(.some 15), (.faddr 1 (.t 14)), (.some (12, .true))⟩,
   ⟨(.some 16), (.load .false 1 (.t 15) .false), (.some (12, .true))⟩,
   ⟨(.some 17), (.mov (.t 0)), (.some (12, .true))⟩,
   ⟨(.some 18), (.nilchk (.t 17)), (.some (12, .true))⟩,
   ⟨(.some 19), (.faddr 0 (.t 18)), (.some (12, .true))⟩,
   ⟨(.some 20), (.load .false 1 (.t 19) .false), (.some (12, .true))⟩,
   ⟨(.some 21), (.len (.t 20)), (.some (12, .true))⟩,
   ⟨(.some 22), (.bin .lss (.t 16) (.t 21)), (.some (12, .true))⟩,
   ⟨(.some 23), (.pick (.t 12) (.t 22) (.c (.d (.bool .false)))), .none⟩])
 c54_1)
 c54_3)
def c54 : PFun := ⟨
 (.seq (.region [⟨(.some 2), (.mov (.c (.d (.int .i64 0)))), .none⟩])
 c54_0),
 1, 26, [(.tmp 2)]⟩

/-- (*prompter/wire.Reader).Fail -/
abbrev c68_1 : PCode :=
 (.region [⟨(.some 13), (.mov (.t 0)), .none⟩,
   ⟨(.some 14), (.mov (.t 1)), .none⟩,
   ⟨(.some 15), (.nilchk (.t 13)), .none⟩,
   ⟨(.some 16), (.faddr 2 (.t 15)), .none⟩,
   ⟨.none, (.store 1 (.t 16) (.t 14)), .none⟩])
abbrev c68_0 : PCode :=
 (.cond (.t 12)
  c68_1
  .skip)
def c68 : PFun := ⟨
 (.seq (.region [⟨(.some 4), (.mov (.t 0)), .none⟩,
   ⟨(.some 5), (.isNil 0 .true (.t 4)), .none⟩,
   ⟨(.some 6), (.mov (.t 5)), .none⟩,
   ⟨(.some 7), (.mov (.t 0)), (.some (6, .true))⟩,
   ⟨(.some 8), (.nilchk (.t 7)), (.some (6, .true))⟩,
   ⟨(.some 9), (.faddr 2 (.t 8)), (.some (6, .true))⟩,
   ⟨(.some 10), (.load .false 1 (.t 9) .false), (.some (6, .true))⟩,
   ⟨(.some 11), (.bin .eql (.t 10) (.c (.d (.int .i64 0)))), (.some (6, .true))⟩,
   ⟨(.some 12), (.pick (.t 6) (.t 11) (.c (.d (.bool .false)))), .none⟩])
 c68_0),
 2, 17, []⟩

/-- (*prompter/wire.Reader).Err -/
abbrev c69_2 : PCode :=
 (.seq (.region [⟨(.some 2), (.mov (.c (.d (.int .i64 1)))), .none⟩])
 .ret)
abbrev c69_1 : PCode :=
 (.cond (.t 4)
  c69_2
  .skip)
abbrev c69_3 : PCode :=
 (.keep [0] (.seq (.region [⟨(.some 5), (.mov (.t 0)), .none⟩,
   ⟨(.some 6), (.nilchk (.t 5)), .none⟩,
   ⟨(.some 7), (.faddr 2 (.t 6)), .none⟩,
   ⟨(.some 8), (.load .false 1 (.t 7) .false), .none⟩,
   ⟨(.some 2), (.mov (.t 8)), .none⟩])
 .ret))
abbrev c69_0 : PCode :=
 (.seq (.seq (.region [⟨(.some 3), (.mov (.t 0)), .none⟩,
   ⟨(.some 4), (.isNil 0 .false (.t 3)), .none⟩])
 c69_1)
 c69_3)
def c69 : PFun := ⟨
 (.seq (.region [⟨(.some 2), (.mov (.c (.d (.int .i64 0)))), .none⟩])
 c69_0),
 1, 9, [(.tmp 2)]⟩

/-- (*prompter/wire.Reader).Within -/
abbrev c70_4 : PCode :=
 (.seq (.region [⟨(.some 4), (.mov (.c (.d (.int .i64 0)))), .none⟩])
 .ret)
abbrev c70_3 : PCode :=
 (.seq (.region [⟨(.some 12), (.mov (.t 0)), .none⟩,
   ⟨(.some 13), (.call0 68 [(.t 12), (.c (.d (.int .i64 7)))]), .none⟩])
 c70_4)
abbrev c70_2 : PCode :=
 (.cond (.t 11)
  c70_3
  .skip)
abbrev c70_5 : PCode :=
 (.seq (.region [⟨(.some 14), (.mov (.t 5)), .none⟩,
   ⟨(.some 4), (.mov (.t 14)), .none⟩])
 .ret)
abbrev c70_1 : PCode :=
 (.keep [0, 1, 5] (.seq (.seq (.region [⟨(.some 9), (.mov (.t 5)), .none⟩,
   ⟨(.some 10), (.mov (.t 1)), .none⟩,
   ⟨(.some 11), (.bin .gtr (.t 9) (.t 10)), .none⟩])
 c70_2)
 c70_5))
abbrev c70_0 : PCode :=
 (.seq (.region [⟨(.some 6), (.mov (.t 0)), .none⟩,
   ⟨(.some 7), (.call0 71 [(.t 6)]), .none⟩,
   ⟨(.some 8), (.cvt .i64 (.t 7)), .none⟩,
   ⟨(.some 5), (.mov (.t 8)), .none⟩])
 c70_1)
def c70 : PFun := ⟨
 (.seq (.region [⟨(.some 4), (.mov (.c (.d (.int .i64 0)))), .none⟩])
 c70_0),
 2, 15, [(.tmp 4)]⟩

/-- (*prompter/wire.Reader).Word -/
abbrev c71_3 : PCode :=
 (.seq (.region [⟨(.some 2), (.mov (.c (.d (.int .u16 0)))), .none⟩])
 .ret)
abbrev c71_2 : PCode :=
 (.seq (.region [⟨(.some 6), (.mov (.t 0)), .none⟩,
   ⟨(.some 7), (.call0 68 [(.t 6), (.c (.d (.int .i64 3)))]), .none⟩])
 c71_3)
abbrev c71_1 : PCode :=
 (.cond (.t 5)
  c71_2
  .skip)
abbrev c71_5 : PCode :=
 (.keep [0] (.seq (.region [⟨(.some 15), (.mov (.t 0)), .none⟩,
   ⟨(.some 16), (.nilchk (.t 15)), .none⟩,
   ⟨(.some 17), (.faddr 0 (.t 16)), .none⟩,
   ⟨(.some 18), (.load .false 1 (.t 17) .false), .none⟩,
   ⟨(.some 19), (.mov (.t 0)), .none⟩,
   ⟨(.some 20), (.nilchk (.t 19)), .none⟩,
   ⟨(.some 21), (.faddr 1 (.t 20)), .none⟩,
   ⟨(.some 22), (.load .false 1 (.t 21) .false), .none⟩,
   ⟨(.some 23), (.bin .sub (.t 22) (.c (.d (.int .i64 2)))), .none⟩,
   ⟨(.some 24), (.iaddr 1 (.t 18) (.t 23)), .none⟩,
   ⟨(.some 25), (.load .false 1 (.t 24) .false), .none⟩,
   ⟨(.some 26), (.cvt .u16 (.t 25)), .none⟩,
   ⟨(.some 27), (.bin .shl (.t 26) (.c (.d (.int .u64 8)))), .none⟩,
   ⟨(.some 28), (.mov (.t 0)), .none⟩,
   ⟨(.some 29), (.nilchk (.t 28)), .none⟩,
   ⟨(.some 30), (.faddr 0 (.t 29)), .none⟩,
   ⟨(.some 31), (.load .false 1 (.t 30) .false), .none⟩,
   ⟨(.some 32), (.mov (.t 0)), .none⟩,
   ⟨(.some 33), (.nilchk (.t 32)), .none⟩,
   ⟨(.some 34), (.faddr 1 (.t 33)), .none⟩,
   ⟨(.some 35), (.load .false 1 (.t 34) .false), .none⟩,
   ⟨(.some 36), (.bin .sub (.t 35) (.c (.d (.int .i64 1)))), .none⟩,
   ⟨(.some 37), (.iaddr 1 (.t 31) (.t 36)), .none⟩,
   ⟨(.some 38), (.load .false 1 (.t 37) .false), .none⟩,
   ⟨(.some 39), (.cvt .u16 (.t 38)), .none⟩,
   ⟨(.some 40), (.bin .or (.t 27) (.t 39)), .none⟩,
   ⟨(.some 2), (.mov (.t 40)), .none⟩])
 .ret))
abbrev c71_4 : PCode :=
 (.seq (.region [⟨(.some 8), (.mov (.t 0)), .none⟩,
   ⟨(.some 9), (.nilchk (.t 8)), .none⟩,
   ⟨(.some 10), (.faddr 1 (.t 9)), .none⟩,
   ⟨(.some 11), (.load .false 1 (.t 10) .false), .none⟩,
   ⟨(.some 12), (.bin .add (.t 11) (.c (.d (.int .i64 2)))), .none⟩,
   ⟨(.some 13), (.nilchk (.t 8)), .none⟩,
   ⟨(.some 14), (.faddr 1 (.t 13)), .none⟩,
   ⟨.none, (.store 1 (.t 14) (.t 12)), .none⟩])
 c71_5)
abbrev c71_0 : PCode :=
 (.seq (.seq (.region [⟨(.some 3), (.mov (.t 0)), .none⟩,
   ⟨(.some 4), (.call0 77 [(.t 3)]), .none⟩,
   ⟨(.some 5), (.bin .lss (.t 4) (.c (.d (.int .i64 2)))), .none⟩])
 c71_1)
 c71_4)
def c71 : PFun := ⟨
 (.seq (.region [⟨(.some 2), (.mov (.c (.d (.int .u16 0)))), .none⟩])
 c71_0),
 1, 41, [(.tmp 2)]⟩

/-- (*prompter/wire.Reader).Long -/
abbrev c72_3 : PCode :=
 (.seq (.region [⟨(.some 2), (.mov (.c (.d (.int .u32 0)))), .none⟩])
 .ret)
abbrev c72_2 : PCode :=
 (.cond (.t 14)
  c72_3
  .skip)
abbrev c72_4 : PCode :=
 (.keep [3] (.seq (.region [⟨(.some 15), (.mov (.t 3)), .none⟩,
   ⟨(.some 2), (.mov (.t 15)), .none⟩])
 .ret))
abbrev c72_1 : PCode :=
 (.keep [0, 3] (.seq (.seq (.region [⟨(.some 12), (.mov (.t 0)), .none⟩,
   ⟨(.some 13), (.call0 69 [(.t 12)]), .none⟩,
   ⟨(.some 14), (.bin .neq (.t 13) (.c (.d (.int .i64 0)))), .none⟩])
 c72_2)
 c72_4))
abbrev c72_0 : PCode :=
 (.seq (.region [⟨(.some 4), (.mov (.t 0)), .none⟩,
   ⟨(.some 5), (.call0 71 [(.t 4)]), .none⟩,
   ⟨(.some 6), (.cvt .u32 (.t 5)), .none⟩,
   ⟨(.some 7), (.bin .shl (.t 6) (.c (.d (.int .u64 16)))), .none⟩,
   ⟨(.some 8), (.mov (.t 0)), .none⟩,
   ⟨(.some 9), (.call0 71 [(.t 8)]), .none⟩,
   ⟨(.some 10), (.cvt .u32 (.t 9)), .none⟩,
   ⟨(.some 11), (.bin .or (.t 7) (.t 10)), .none⟩,
   ⟨(.some 3), (.mov (.t 11)), .none⟩])
 c72_1)
def c72 : PFun := ⟨
 (.seq (.region [⟨(.some 2), (.mov (.c (.d (.int .u32 0)))), .none⟩])
 c72_0),
 1, 16, [(.tmp 2)]⟩

/-- prompter/real.Of -/
abbrev c73_1 : PCode :=
 (.keep [0, 4] (.seq (.region [⟨(.some 7), (.mov (.t 4)), .none⟩,
   ⟨(.some 8), (.mov (.t 4)), .none⟩,
   ⟨(.some 9), (.call0 60 [(.t 8)]), .none⟩,
   ⟨(.some 10), (.mov (.t 0)), .none⟩,
   ⟨(.some 11), (.bin .eql (.t 9) (.t 10)), .none⟩,
   ⟨(.some 2), (.mov (.t 7)), .none⟩,
   ⟨(.some 3), (.mov (.t 11)), .none⟩])
 .ret))
abbrev c73_0 : PCode :=
 (.seq (.region [⟨(.some 5), (.mov (.t 0)), .none⟩,
   ⟨(.some 6), (.nat 1 (.t 5)), .none⟩,
   ⟨(.some 4), (.mov (.t 6)), .none⟩])
 c73_1)
def c73 : PFun := ⟨
 (.seq (.region [⟨(.some 2), (.mov (.c (.d (.flt .f64 0)))), .none⟩,
   ⟨(.some 3), (.mov (.c (.d (.bool .false)))), .none⟩])
 c73_0),
 1, 12, [(.tmp 2), (.tmp 3)]⟩

/-- (*prompter/wire.Reader).Quad -/
abbrev c74_3 : PCode :=
 (.seq (.region [⟨(.some 2), (.mov (.c (.d (.int .u64 0)))), .none⟩])
 .ret)
abbrev c74_2 : PCode :=
 (.cond (.t 14)
  c74_3
  .skip)
abbrev c74_4 : PCode :=
 (.keep [3] (.seq (.region [⟨(.some 15), (.mov (.t 3)), .none⟩,
   ⟨(.some 2), (.mov (.t 15)), .none⟩])
 .ret))
abbrev c74_1 : PCode :=
 (.keep [0, 3] (.seq (.seq (.region [⟨(.some 12), (.mov (.t 0)), .none⟩,
   ⟨(.some 13), (.call0 69 [(.t 12)]), .none⟩,
   ⟨(.some 14), (.bin .neq (.t 13) (.c (.d (.int .i64 0)))), .none⟩])
 c74_2)
 c74_4))
abbrev c74_0 : PCode :=
 (.seq (.region [⟨(.some 4), (.mov (.t 0)), .none⟩,
   ⟨(.some 5), (.call0 72 [(.t 4)]), .none⟩,
   ⟨(.some 6), (.cvt .u64 (.t 5)), .none⟩,
   ⟨(.some 7), (.bin .shl (.t 6) (.c (.d (.int .u64 32)))), .none⟩,
   ⟨(.some 8), (.mov (.t 0)), .none⟩,
   ⟨(.some 9), (.call0 72 [(.t 8)]), .none⟩,
   ⟨(.some 10), (.cvt .u64 (.t 9)), .none⟩,
   ⟨(.some 11), (.bin .or (.t 7) (.t 10)), .none⟩,
   ⟨(.some 3), (.mov (.t 11)), .none⟩])
 c74_1)
def c74 : PFun := ⟨
 (.seq (.region [⟨(.some 2), (.mov (.c (.d (.int .u64 0)))), .none⟩])
 c74_0),
 1, 16, [(.tmp 2)]⟩

/-- (*prompter/wire.Reader).Text -/
abbrev c75_4 : PCode :=
 (.region [⟨(.some 18), (.mov (.t 0)), .none⟩,
   ⟨(.some 19), (.call0 68 [(.t 18), (.c (.d (.int .i64 3)))]), .none⟩])
abbrev c75_3 : PCode :=
 (.cond (.t 17)
  c75_4
  .skip)
abbrev c75_7 : PCode :=
 (.seq (.region [⟨(.some 4), (.mov (.c (.d (.str (bs []))))), .none⟩])
 .ret)
abbrev c75_6 : PCode :=
 (.cond (.t 22)
  c75_7
  .skip)
abbrev c75_12 : PCode :=
 (.seq (.region [⟨(.some 4), (.mov (.c (.d (.str (bs []))))), .none⟩])
 .ret)
abbrev c75_11 : PCode :=
 (.seq (.region [⟨(.some 48), (.mov (.t 0)), .none⟩,
   ⟨(.some 49), (.call0 68 [(.t 48), (.c (.d (.int .i64 4)))]), .none⟩])
 c75_12)
abbrev c75_10 : PCode :=
 (.cond (.t 47)
  c75_11
  .skip)
abbrev c75_13 : PCode :=
 (.seq (.region [⟨(.some 50), (.mov (.t 0)), .none⟩,
   ⟨(.some 51), (.nilchk (.t 50)), .none⟩,
   ⟨(.some 52), (.faddr 0 (.t 51)), .none⟩,
   ⟨(.some 53), (.load .false 1 (.t 52) .false), .none⟩,
   ⟨(.some 54), (.mov (.t 0)), .none⟩,
   ⟨(.some 55), (.nilchk (.t 54)), .none⟩,
   ⟨(.some 56), (.faddr 1 (.t 55)), .none⟩,
   ⟨(.some 57), (.load .false 1 (.t 56) .false), .none⟩,
   ⟨(.some 58), (.mov (.t 6)), .none⟩,
   ⟨(.some 59), (.bin .sub (.t 57) (.t 58)), .none⟩,
   ⟨(.some 60), (.mov (.t 0)), .none⟩,
   ⟨(.some 61), (.nilchk (.t 60)), .none⟩,
   ⟨(.some 62), (.faddr 1 (.t 61)), .none⟩,
   ⟨(.some 63), (.load .false 1 (.t 62) .false), .none⟩,
   ⟨(.some 64), (.mov (.t 6)), .none⟩,
   ⟨(.some 65), (.bin .sub (.t 63) (.t 64)), .none⟩,
   ⟨(.some 66), (.mov (.t 5)), .none⟩,
   ⟨(.some 67), (.bin .add (.t 65) (.t 66)), .none⟩,
   ⟨(.some 68), (.slc 1 (.t 53) (.some (.t 59)) (.some (.t 67))), .none⟩,
   ⟨(.some 69), (.strOf (.t 68)), .none⟩,
   ⟨(.some 4), (.mov (.t 69)), .none⟩])
 .ret)
abbrev c75_9 : PCode :=
 (.keep [0, 5, 6] (.seq (.seq (.region [⟨(.some 31), (.mov (.t 5)), .none⟩,
   ⟨(.some 32), (.mov (.t 6)), .none⟩,
   ⟨(.some 33), (.bin .lss (.t 31) (.t 32)), .none⟩,
   ⟨(.some 34), (.mov (.t 33)), .none⟩,
   ⟨(.some 35), (.mov (.t 0)), (.some (34, .true))⟩,
   ⟨(.some 36), (.nilchk (.t 35)), (.some (34, .true))⟩,
   ⟨(.some 37), (.faddr 0 (.t 36)), (.some (34, .true))⟩,
   ⟨(.some 38), (.load .false 1 (.t 37) .false), (.some (34, .true))⟩,
   ⟨(.some 39), (.mov (.t 0)), (.some (34, .true))⟩,
   ⟨(.some 40), (.nilchk (.t 39)), (.some (34, .true))⟩,
   ⟨(.some 41), (.faddr 1 (.t 40)), (.some (34, .true))⟩,
   ⟨(.some 42), (.load .false 1 (.t 41) .false), (.some (34, .true))⟩,
   ⟨(.some 43), (.bin .sub (.t 42) (.c (.d (.int .i64 1)))), (.some (34, .true))⟩,
   ⟨(.some 44), (.iaddr 1 (.t 38) (.t 43)), (.some (34, .true))⟩,
   ⟨(.some 45), (.load .false 1 (.t 44) .false), (.some (34, .true))⟩,
   ⟨(.some 46), (.bin .neq (.t 45) (.c (.d (.int .u8 0)))), (.some (34, .true))⟩,
   ⟨(.some 47), (.pick (.t 34) (.t 46) (.c (.d (.bool .false)))), .none⟩])
 c75_10)
 c75_13))
abbrev c75_8 : PCode :=
 (.keep [0, 5, 6] (.seq (.region [⟨(.some 23), (.mov (.t 0)), .none⟩,
   ⟨(.some 24), (.nilchk (.t 23)), .none⟩,
   ⟨(.some 25), (.faddr 1 (.t 24)), .none⟩,
   ⟨(.some 26), (.load .false 1 (.t 25) .false), .none⟩,
   ⟨(.some 27), (.mov (.t 6)), .none⟩,
   ⟨(.some 28), (.bin .add (.t 26) (.t 27)), .none⟩,
   ⟨(.some 29), (.nilchk (.t 23)), .none⟩,
   ⟨(.some 30), (.faddr 1 (.t 29)), .none⟩,
   ⟨.none, (.store 1 (.t 30) (.t 28)), .none⟩])
 c75_9))
abbrev c75_5 : PCode :=
 (.keep [0, 5, 6] (.seq (.seq (.region [⟨(.some 20), (.mov (.t 0)), .none⟩,
   ⟨(.some 21), (.call0 69 [(.t 20)]), .none⟩,
   ⟨(.some 22), (.bin .neq (.t 21) (.c (.d (.int .i64 0)))), .none⟩])
 c75_6)
 c75_8))
abbrev c75_2 : PCode :=
 (.keep [0, 5, 6] (.seq (.seq (.region [⟨(.some 14), (.mov (.t 6)), .none⟩,
   ⟨(.some 15), (.mov (.t 0)), .none⟩,
   ⟨(.some 16), (.call0 77 [(.t 15)]), .none⟩,
   ⟨(.some 17), (.bin .gtr (.t 14) (.t 16)), .none⟩])
 c75_3)
 c75_5))
abbrev c75_1 : PCode :=
 (.keep [0, 5] (.seq (.region [⟨(.some 10), (.mov (.t 5)), .none⟩,
   ⟨(.some 11), (.mov (.t 5)), .none⟩,
   ⟨(.some 12), (.bin .rem (.t 11) (.c (.d (.int .i64 2)))), .none⟩,
   ⟨(.some 13), (.bin .add (.t 10) (.t 12)), .none⟩,
   ⟨(.some 6), (.mov (.t 13)), .none⟩])
 c75_2))
abbrev c75_0 : PCode :=
 (.seq (.region [⟨(.some 7), (.mov (.t 0)), .none⟩,
   ⟨(.some 8), (.mov (.t 1)), .none⟩,
   ⟨(.some 9), (.call0 70 [(.t 7), (.t 8)]), .none⟩,
   ⟨(.some 5), (.mov (.t 9)), .none⟩])
 c75_1)
def c75 : PFun := ⟨
 (.seq (.region [⟨(.some 4), (.mov (.c (.d (.str (bs []))))), .none⟩])
 c75_0),
 2, 70, [(.tmp 4)]⟩

/-- (*prompter/wire.Reader).Left -/
abbrev c77_2 : PCode :=
 (.seq (.region [⟨(.some 2), (.mov (.c (.d (.int .i64 0)))), .none⟩])
 .ret)
abbrev c77_1 : PCode :=
 (.cond (.t 11)
  c77_2
  .skip)
abbrev c77_3 : PCode :=
 (.keep [0] (.seq (.region [⟨(.some 12), (.mov (.t 0)), .none⟩,
   ⟨(.some 13), (.nilchk (.t 12)), .none⟩,
   ⟨(.some 14), (.faddr 0 (.t 13)), .none⟩,
   ⟨(.some 15), (.load .false 1 (.t 14) .false), .none⟩,
   ⟨(.some 16), (.len (.t 15)), .none⟩,
   ⟨(.some 17), (.mov (.t 0)), .none⟩,
   ⟨(.some 18), (.nilchk (.t 17)), .none⟩,
   ⟨(.some 19), (.faddr 1 (.t 18)), .none⟩,
   ⟨(.some 20), (.load .false 1 (.t 19) .false), .none⟩,
   ⟨(.some 21), (.bin .sub (.t 16) (.t 20)), .none⟩,
   ⟨(.some 2), (.mov (.t 21)), .none⟩])
 .ret))
abbrev c77_0 : PCode :=
 (.seq (.seq (.region [⟨(.some 3), (.mov (.t 0)), .none⟩,
   ⟨(.some 4), (.isNil 0 .false (.t 3)), .none⟩,
   ⟨(.some 5), (.mov (.t 4)), .none⟩,
   ⟨(.some 6), (.mov (.t 0)), (.some (5, .false))⟩,
   ⟨(.some 7), (.nilchk (.t 6)), (.some (5, .false))⟩,
   ⟨(.some 8), (.faddr 2 (.t 7)), (.some (5, .false))⟩,
   ⟨(.some 9), (.load .false 1 (.t 8) .false), (.some (5, .false))⟩,
   ⟨(.some 10), (.bin .neq (.t 9) (.c (.d (.int .i64 0)))), (.some (5, .false))⟩,
   ⟨(.some 11), (.pick (.t 5) (.c (.d (.bool .true))) (.t 10)), .none⟩])
 c77_1)
 c77_3)
def c77 : PFun := ⟨
 (.seq (.region [⟨(.some 2), (.mov (.c (.d (.int .i64 0)))), .none⟩])
 c77_0),
 1, 22, [(.tmp 2)]⟩

theorem e52 : entered Try.prog 52 = true := by kernel_rfl
theorem k52 : compFun Try.prog (fun _ => 0) 52 = some c52.er := by kernel_rfl
theorem e54 : entered Try.prog 54 = true := by kernel_rfl
theorem k54 : compFun Try.prog (fun _ => 0) 54 = some c54.er := by kernel_rfl
theorem e68 : entered Try.prog 68 = true := by kernel_rfl
theorem k68 : compFun Try.prog (fun _ => 0) 68 = some c68.er := by kernel_rfl
theorem e69 : entered Try.prog 69 = true := by kernel_rfl
theorem k69 : compFun Try.prog (fun _ => 0) 69 = some c69.er := by kernel_rfl
theorem e70 : entered Try.prog 70 = true := by kernel_rfl
theorem k70 : compFun Try.prog (fun _ => 0) 70 = some c70.er := by kernel_rfl
theorem e71 : entered Try.prog 71 = true := by kernel_rfl
theorem k71 : compFun Try.prog (fun _ => 0) 71 = some c71.er := by kernel_rfl
theorem e72 : entered Try.prog 72 = true := by kernel_rfl
theorem k72 : compFun Try.prog (fun _ => 0) 72 = some c72.er := by kernel_rfl
theorem e73 : entered Try.prog 73 = true := by kernel_rfl
theorem k73 : compFun Try.prog (fun _ => 0) 73 = some c73.er := by kernel_rfl
theorem e74 : entered Try.prog 74 = true := by kernel_rfl
theorem k74 : compFun Try.prog (fun _ => 0) 74 = some c74.er := by kernel_rfl
theorem e75 : entered Try.prog 75 = true := by kernel_rfl
theorem k75 : compFun Try.prog (fun _ => 0) 75 = some c75.er := by kernel_rfl
theorem e77 : entered Try.prog 77 = true := by kernel_rfl
theorem k77 : compFun Try.prog (fun _ => 0) 77 = some c77.er := by kernel_rfl


theorem pjoinC {G : Glob} {C : CallsP} {c b : PCode} {l : List Nat} {Q : PEx → Slots → St → Prop} {s : Slots} {t : St} (J : Slots → St → Prop) (h1 : pwp G C c (PEx.next (fun s' t' => J (trim (some l) s') t') Q) s t) (h2 : ∀ s t, J s t → pwp G C b Q s t) :
    pwp G C c (PEx.next (pwp G C (.keep l b) Q) Q) s t :=
  pwp_mono (PEx.next_mono (K := fun s' t' => J (trim (some l) s') t') (fun _ _ k => pkeep (h2 _ _ k)) fun _ _ _ k => k) h1
theorem or_of (w m : Nat) {a b : Int} (ha : 0 ≤ a) (hb : 0 ≤ b ∧ b < 2 ^ m) (h : a * 2 ^ m + b < 2 ^ w) : ((BitVec.ofInt w (a * 2 ^ m) ||| BitVec.ofInt w b).toNat : Int) = a * 2 ^ m + b := by
  obtain ⟨n, rfl⟩ := Int.eq_ofNat_of_zero_le ha
  obtain ⟨k, rfl⟩ := Int.eq_ofNat_of_zero_le hb.1
  have hb' : k < 2 ^ m := by have := hb.2; exact_mod_cast this
  have h' : n * 2 ^ m + k < 2 ^ w := by exact_mod_cast h
  rw [show ((n : Int) * 2 ^ m) = ((n * 2 ^ m : Nat) : Int) by push_cast; rfl, BitVec.ofInt_natCast, BitVec.ofInt_natCast, BitVec.toNat_or, BitVec.toNat_ofNat, BitVec.toNat_ofNat, Nat.mod_eq_of_lt (by omega), Nat.mod_eq_of_lt (by omega), Nat.mul_comm, ← Nat.two_pow_add_eq_or_of_lt hb' n]
  push_cast; rfl
theorem or16 {x y : Int} (hx : 0 ≤ x ∧ x ≤ 255) (hy : 0 ≤ y ∧ y ≤ 255) : IntKind.u16.wrap ((BitVec.ofInt IntKind.u16.bits (IntKind.u16.wrap (IntKind.u16.wrap x * 2 ^ min (Int.toNat 8) IntKind.u16.bits)) ||| BitVec.ofInt IntKind.u16.bits (IntKind.u16.wrap y)).toNat : Int) = x * 256 + y := by
  rw [IntWalk.u16_in x (by omega), IntWalk.u16_in y (by omega), show x * 2 ^ min (Int.toNat 8) IntKind.u16.bits = x * 2 ^ 8 from rfl, IntWalk.u16_in (x * 2 ^ 8) (by omega), show IntKind.u16.bits = 16 from rfl, or_of 16 8 hx.1 (by omega) (by omega), IntWalk.u16_in _ (by omega)]; omega
theorem or32 {x y : Int} (hx : 0 ≤ x ∧ x ≤ 65535) (hy : 0 ≤ y ∧ y ≤ 65535) : IntKind.u32.wrap ((BitVec.ofInt IntKind.u32.bits (IntKind.u32.wrap (IntKind.u32.wrap x * 2 ^ min (Int.toNat 16) IntKind.u32.bits)) ||| BitVec.ofInt IntKind.u32.bits (IntKind.u32.wrap y)).toNat : Int) = x * 65536 + y := by
  rw [IntWalk.u32_in x (by omega), IntWalk.u32_in y (by omega), show x * 2 ^ min (Int.toNat 16) IntKind.u32.bits = x * 2 ^ 16 from rfl, IntWalk.u32_in (x * 2 ^ 16) (by omega), show IntKind.u32.bits = 32 from rfl, or_of 32 16 hx.1 (by omega) (by omega), IntWalk.u32_in _ (by omega)]; omega
theorem or64 {x y : Int} (hx : 0 ≤ x ∧ x ≤ 4294967295) (hy : 0 ≤ y ∧ y ≤ 4294967295) : IntKind.u64.wrap ((BitVec.ofInt IntKind.u64.bits (IntKind.u64.wrap (IntKind.u64.wrap x * 2 ^ min (Int.toNat 32) IntKind.u64.bits)) ||| BitVec.ofInt IntKind.u64.bits (IntKind.u64.wrap y)).toNat : Int) = x * 4294967296 + y := by
  rw [IntWalk.u64_in x (by omega), IntWalk.u64_in y (by omega), show x * 2 ^ min (Int.toNat 32) IntKind.u64.bits = x * 2 ^ 32 from rfl, IntWalk.u64_in (x * 2 ^ 32) (by omega), show IntKind.u64.bits = 64 from rfl, or_of 64 32 hx.1 (by omega) (by omega), IntWalk.u64_in _ (by omega)]; omega
theorem slc_mid {G : Glob} {s : Slots} {x a b : Arg} {v : AV} {l : List Int} {i j : Nat} (fv : VF v (rowsB l)) (hx : x.ev G s = v) (ha : a.ev G s = i64 i) (hb : b.ev G s = i64 j) (hij : i ≤ j) (hj : j ≤ l.length) : ∃ w, ev G s (.slc 1 x (some a) (some b)) = some w ∧ w.rows? = some (rowsB ((l.take j).drop i)) := by
  have h1 := fv.rows
  have h5 : ∀ b o n c, v ≠ .bsl b o n c := fun b o n c e => by rw [e] at h1; cases h1
  have h2 : ((rowsB l).all fun r => r.length == 1) = true := List.all_eq_true.2 fun r hr => by simp [rowsB_len l r hr]
  have h3 : (rowsB l).length = l.length := by simp
  have h4 : ev G s (.slc 1 x (some a) (some b)) = (if i = 0 ∧ j = l.length then some v else some (.d (.sl (((rowsB l).take j).drop i)))) := by
    simp only [ev, hx, ha, hb, Option.map_some, i64, bnds, bnd]
    rw [h1]
    simp only [Option.bind_some, Int.toNat_natCast, h3]
    rw [if_pos (by omega)]
    simp only [Option.bind_some, Int.toNat_natCast]
    rw [if_pos (by omega)]
    simp only [Option.bind_some, h2, or_true, if_true]
  rw [h4]
  split
  · rename_i h; exact ⟨v, rfl, by rw [h.1, h.2, List.take_length, List.drop_zero]; exact h1⟩
  · refine ⟨_, rfl, ?_⟩
    show some _ = some _
    rw [rowsB, rowsB, List.map_drop, List.map_take]

/-- A reader's variable, its bytes. -/
def rdF (pr : Nat) (a : AV) (l : List Int) (s : RS) : List Item := [.box pr [a, .d (.int .i64 s.p), .d (.int .i64 s.e)], .vec a (rowsB l) 1]
theorem rd_sat (pr : Nat) (a : AV) (l : List Int) (s q : RS) : Sat (rdF pr a l s) (fun b : AV => rdF pr b l q) := Sat.out pr _ (fun b => [b, .d (.int .i64 q.p), .d (.int .i64 q.e)]) a _ _ 1 1 [] (by simp)

theorem rdLeft (pr : Nat) (a : AV) (l : List Int) (s : RS) (h : s.ok l) (hl : l.length < 2 ^ 40) : CL (PCalls Try.prog GG) 77 [ptrAt pr] (rdF pr a l s) (fun _ : AV => .d (.int .i64 (rLeft l s))) (fun b => rdF pr b l s) := by
  refine ⟨rd_sat _ _ _ _ _, ?_⟩
  have h1 := h.p
  simp only [rdF]
  intro st t hL; refine pcalls_of k77 e77 (of_decide_eq_true rfl) ?_; dsimp only [c77]; generalize hQ : pfin _ _ = Q
  have fv := hL.vk a
  obtain ⟨fv_r, fv_w, fv_w1, fv_c, fv_s, fv_d⟩ := id fv
  refine gor hL ?_; (repeat (clear hL; intro t hL; refine gor hL ?_))
  refine pcond_b rfl (fun h2 => ?_) (fun h2 => ?_)
  · have h2' : s.e ≠ 0 := by simpa using h2
    rw [rLeft, if_neg h2'] at hQ
    refine gor hL ?_; (repeat (clear hL; intro t hL; refine gor hL ?_)); (repeat (refine pseqk ?_; refine gor hL ?_; (repeat (clear hL; intro t hL; refine gor hL ?_))))
    rw [← hQ]
    exact pfinK a rfl (.inl rfl) hL
  · have h2' : s.e = 0 := by simpa using h2
    rw [rLeft, if_pos h2'] at hQ
    refine gor hL ?_; (repeat (clear hL; intro t hL; refine gor hL ?_)); (repeat (refine pseqk ?_; refine gor hL ?_; (repeat (clear hL; intro t hL; refine gor hL ?_))))
    refine gnm ?_; rw [IntWalk.i64_in ((l.length : Int) - s.p) (by omega)]
    rw [← hQ]
    exact pfinK a rfl (.inl rfl) hL
theorem rdErr (pr : Nat) (a : AV) (l : List Int) (s : RS) : CL (PCalls Try.prog GG) 69 [ptrAt pr] (rdF pr a l s) (fun _ : AV => .d (.int .i64 s.e)) (fun b => rdF pr b l s) := by
  refine ⟨rd_sat _ _ _ _ _, ?_⟩
  simp only [rdF]
  intro st t hL; refine pcalls_of k69 e69 (of_decide_eq_true rfl) ?_; dsimp only [c69]; generalize hQ : pfin _ _ = Q
  have fv := hL.vk a
  obtain ⟨fv_r, fv_w, fv_w1, fv_c, fv_s, fv_d⟩ := id fv
  refine gor hL ?_; (repeat (clear hL; intro t hL; refine gor hL ?_)); (repeat (refine pseqk ?_; refine gor hL ?_; (repeat (clear hL; intro t hL; refine gor hL ?_))))
  rw [← hQ]
  exact pfinK a rfl (.inl rfl) hL
theorem rdFail (pr : Nat) (a : AV) (l : List Int) (s : RS) (k : Int) : CL (PCalls Try.prog GG) 68 [ptrAt pr, .d (.int .i64 k)] (rdF pr a l s) (fun _ : AV => .tup []) (fun b => rdF pr b l (rFail s k)) := by
  refine ⟨rd_sat _ _ _ _ _, ?_⟩
  simp only [rdF]
  intro st t hL; refine pcalls_of k68 e68 (of_decide_eq_true rfl) ?_; dsimp only [c68]; generalize hQ : pfin _ _ = Q
  have fv := hL.vk a
  obtain ⟨fv_r, fv_w, fv_w1, fv_c, fv_s, fv_d⟩ := id fv
  refine gor hL ?_; (repeat (clear hL; intro t hL; refine gor hL ?_))
  refine pcond_b rfl (fun h => ?_) (fun h => ?_)
  · have h' : s.e = 0 := by simpa using h
    rw [rFail, if_pos h'] at hQ
    refine gor hL ?_; (repeat (clear hL; intro t hL; refine gor hL ?_)); (repeat (refine pseqk ?_; refine gor hL ?_; (repeat (clear hL; intro t hL; refine gor hL ?_))))
    rw [← hQ]
    exact pfinK a rfl (.inl rfl) hL
  · have h' : ¬ s.e = 0 := by simpa using h
    rw [rFail, if_neg h'] at hQ
    refine gor hL ?_; (repeat (clear hL; intro t hL; refine gor hL ?_)); (repeat (refine pseqk ?_; refine gor hL ?_; (repeat (clear hL; intro t hL; refine gor hL ?_))))
    rw [← hQ]
    exact pfinK a rfl (.inl rfl) hL
theorem rdWord (pr : Nat) (a : AV) (l : List Int) (hb : bytesL l) (s : RS) (h : s.ok l) (hl : l.length < 2 ^ 40) : CL (PCalls Try.prog GG) 71 [ptrAt pr] (rdF pr a l s) (fun _ : AV => .d (.int .u16 (rWord l s).1)) (fun b => rdF pr b l (rWord l s).2) := by
  refine ⟨rd_sat _ _ _ _ _, ?_⟩
  have h1 := h.p
  have c1 := fun a => rdLeft pr a l s h hl
  have c2 := fun a => rdFail pr a l s 3
  simp only [rdF] at c1 c2 ⊢
  intro st t hL; refine pcalls_of k71 e71 (of_decide_eq_true rfl) ?_; dsimp only [c71]; generalize hQ : pfin _ _ = Q
  have fv := hL.vk a
  obtain ⟨fv_r, fv_w, fv_w1, fv_c, fv_s, fv_d⟩ := id fv
  refine gor hL ?_; (repeat (clear hL; intro t hL; refine gor hL ?_))
  refine po_callK hL ((c1 _)) ?_; clear hL; intro b t hL; have fb := hL.vk b; obtain ⟨fb_r, fb_w, fb_w1, fb_c, fb_s, fb_d⟩ := id fb
  refine gor hL ?_; (repeat (clear hL; intro t hL; refine gor hL ?_))
  refine pcond_b rfl (fun h2 => ?_) (fun h2 => ?_)
  · have h2' : rLeft l s < 2 := by simpa using h2
    rw [rWord, if_pos h2'] at hQ
    refine gor hL ?_; (repeat (clear hL; intro t hL; refine gor hL ?_)); (repeat (refine pseqk ?_; refine gor hL ?_; (repeat (clear hL; intro t hL; refine gor hL ?_))))
    refine po_callK hL ((c2 _)) ?_; clear hL; intro b t hL; have fb := hL.vk b; obtain ⟨fb_r, fb_w, fb_w1, fb_c, fb_s, fb_d⟩ := id fb
    refine gor hL ?_; (repeat (clear hL; intro t hL; refine gor hL ?_)); (repeat (refine pseqk ?_; refine gor hL ?_; (repeat (clear hL; intro t hL; refine gor hL ?_))))
    rw [← hQ]
    exact pfinK b rfl (.inl rfl) hL
  · have h2' : ¬ rLeft l s < 2 := by simpa using h2
    rw [rWord, if_neg h2'] at hQ
    have he : s.e = 0 := by
      unfold rLeft at h2'
      split at h2'
      · assumption
      · omega
    have hp2 : s.p + 2 ≤ l.length := by unfold rLeft at h2'; rw [if_pos he] at h2'; omega
    have g1 : l[s.p]? = some (l.getD s.p 0) := by rw [List.getD_eq_getElem?_getD, List.getElem?_eq_getElem (by omega)]; rfl
    have g2 : l[s.p + 1]? = some (l.getD (s.p + 1) 0) := by rw [List.getD_eq_getElem?_getD, List.getElem?_eq_getElem (by omega)]; rfl
    have b1 := getD_byte hb s.p
    have b3 := getD_byte hb (s.p + 1)
    generalize l.getD s.p 0 = x at *
    generalize l.getD (s.p + 1) 0 = y at *
    refine gor hL ?_; (repeat (clear hL; intro t hL; refine gor hL ?_))
    rw [IntWalk.i64_in ((s.p : Int) + 2) (by omega), show (s.p : Int) + 2 = ((s.p + 2 : Nat) : Int) by omega] at hL
    refine gnm ?_; rw [IntWalk.i64_in ((s.p : Int) + 2) (by omega), show (s.p : Int) + 2 = ((s.p + 2 : Nat) : Int) by omega]
    refine gor hL ?_; (repeat (clear hL; intro t hL; refine gor hL ?_))
    refine gnm ?_; rw [IntWalk.i64_in (((s.p + 2 : Nat) : Int) - 2) (by omega), show ((s.p + 2 : Nat) : Int) - 2 = (s.p : Nat) by omega]
    refine po_iaddrM (f := fun n => [.int .u8 n]) (k := s.p) rfl fb_r rfl g1 rfl ?_
    refine gor hL ?_; (repeat (clear hL; intro t hL; refine gor hL ?_))
    refine gnm ?_; rw [IntWalk.i64_in (((s.p + 2 : Nat) : Int) - 1) (by omega), show ((s.p + 2 : Nat) : Int) - 1 = ((s.p + 1 : Nat) : Int) by omega]
    refine po_iaddrM (f := fun n => [.int .u8 n]) (k := s.p + 1) rfl fb_r rfl g2 rfl ?_
    refine gor hL ?_; (repeat (clear hL; intro t hL; refine gor hL ?_))
    rw [or16 (by omega) (by omega)]
    rw [← hQ]
    exact pfinK b rfl (.inl rfl) hL
theorem rdWithin (pr : Nat) (a : AV) (l : List Int) (hb : bytesL l) (s : RS) (h : s.ok l) (hl : l.length < 2 ^ 40) (m : Int) : CL (PCalls Try.prog GG) 70 [ptrAt pr, .d (.int .i64 m)] (rdF pr a l s) (fun _ : AV => .d (.int .i64 (rWithin l s m).1)) (fun b => rdF pr b l (rWithin l s m).2) := by
  refine ⟨rd_sat _ _ _ _ _, ?_⟩
  have c1 := fun a => rdWord pr a l hb s h hl
  have c2 := fun a => rdFail pr a l (rWord l s).2 7
  have hn := rWord_in hb s
  simp only [rdF] at c1 c2 ⊢
  intro st t hL; refine pcalls_of k70 e70 (of_decide_eq_true rfl) ?_; dsimp only [c70]; generalize hQ : pfin _ _ = Q
  refine gor hL ?_; (repeat (clear hL; intro t hL; refine gor hL ?_))
  refine po_callK hL ((c1 _)) ?_; clear hL; intro b t hL; have fb := hL.vk b; obtain ⟨fb_r, fb_w, fb_w1, fb_c, fb_s, fb_d⟩ := id fb
  refine gor hL ?_; (repeat (clear hL; intro t hL; refine gor hL ?_))
  refine gnm ?_; rw [IntWalk.i64_in (rWord l s).1 (by omega)]
  refine gor hL ?_; (repeat (clear hL; intro t hL; refine gor hL ?_))
  refine pcond_b rfl (fun h2 => ?_) (fun h2 => ?_)
  · have h2' : (rWord l s).1 > m := by simpa using h2
    rw [rWithin, if_pos h2'] at hQ
    refine gor hL ?_; (repeat (clear hL; intro t hL; refine gor hL ?_))
    refine po_callK hL ((c2 _)) ?_; clear hL; intro b t hL; have fb := hL.vk b; obtain ⟨fb_r, fb_w, fb_w1, fb_c, fb_s, fb_d⟩ := id fb
    refine gor hL ?_; (repeat (clear hL; intro t hL; refine gor hL ?_)); (repeat (refine pseqk ?_; refine gor hL ?_; (repeat (clear hL; intro t hL; refine gor hL ?_))))
    rw [← hQ]
    exact pfinK b rfl (.inl rfl) hL
  · have h2' : ¬ (rWord l s).1 > m := by simpa using h2
    rw [rWithin, if_neg h2'] at hQ
    refine gor hL ?_; (repeat (clear hL; intro t hL; refine gor hL ?_)); (repeat (refine pseqk ?_; refine gor hL ?_; (repeat (clear hL; intro t hL; refine gor hL ?_))))
    rw [← hQ]
    exact pfinK b rfl (.inl rfl) hL
theorem rdLong (pr : Nat) (a : AV) (l : List Int) (hb : bytesL l) (s : RS) (h : s.ok l) (hl : l.length < 2 ^ 40) : CL (PCalls Try.prog GG) 72 [ptrAt pr] (rdF pr a l s) (fun _ : AV => .d (.int .u32 (rLong l s).1)) (fun b => rdF pr b l (rLong l s).2) := by
  refine ⟨rd_sat _ _ _ _ _, ?_⟩
  have c1 := fun a => rdWord pr a l hb s h hl
  have c2 := fun a => rdWord pr a l hb (rWord l s).2 (rWord_ok h) hl
  have c3 := fun a => rdErr pr a l (rWord l (rWord l s).2).2
  have hn := rWord_in hb s
  have hn2 := rWord_in hb (rWord l s).2
  simp only [rdF] at c1 c2 c3 ⊢
  intro st t hL; refine pcalls_of k72 e72 (of_decide_eq_true rfl) ?_; dsimp only [c72]; generalize hQ : pfin _ _ = Q
  refine gor hL ?_; (repeat (clear hL; intro t hL; refine gor hL ?_))
  refine po_callK hL ((c1 _)) ?_; clear hL; intro b t hL; have fb := hL.vk b; obtain ⟨fb_r, fb_w, fb_w1, fb_c, fb_s, fb_d⟩ := id fb
  refine gor hL ?_; (repeat (clear hL; intro t hL; refine gor hL ?_))
  refine po_callK hL ((c2 _)) ?_; clear hL; intro b t hL; have fb := hL.vk b; obtain ⟨fb_r, fb_w, fb_w1, fb_c, fb_s, fb_d⟩ := id fb
  refine gor hL ?_; (repeat (clear hL; intro t hL; refine gor hL ?_))
  refine gnm ?_; rw [or32 hn hn2]
  refine gor hL ?_; (repeat (clear hL; intro t hL; refine gor hL ?_)); (repeat (refine pseqk ?_; refine gor hL ?_; (repeat (clear hL; intro t hL; refine gor hL ?_))))
  refine po_callK hL ((c3 _)) ?_; clear hL; intro b t hL; have fb := hL.vk b; obtain ⟨fb_r, fb_w, fb_w1, fb_c, fb_s, fb_d⟩ := id fb
  refine gor hL ?_; (repeat (clear hL; intro t hL; refine gor hL ?_))
  refine pcond_b rfl (fun h2 => ?_) (fun h2 => ?_)
  · have h2' : ¬ (rWord l (rWord l s).2).2.e = 0 := by simpa using h2
    rw [rLong, if_neg h2'] at hQ
    refine gor hL ?_; (repeat (clear hL; intro t hL; refine gor hL ?_)); (repeat (refine pseqk ?_; refine gor hL ?_; (repeat (clear hL; intro t hL; refine gor hL ?_))))
    rw [← hQ]
    exact pfinK b rfl (.inl rfl) hL
  · have h2' : (rWord l (rWord l s).2).2.e = 0 := by simpa using h2
    rw [rLong, if_pos h2'] at hQ
    refine gor hL ?_; (repeat (clear hL; intro t hL; refine gor hL ?_)); (repeat (refine pseqk ?_; refine gor hL ?_; (repeat (clear hL; intro t hL; refine gor hL ?_))))
    rw [← hQ]
    exact pfinK b rfl (.inl rfl) hL
theorem rdQuad (pr : Nat) (a : AV) (l : List Int) (hb : bytesL l) (s : RS) (h : s.ok l) (hl : l.length < 2 ^ 40) : CL (PCalls Try.prog GG) 74 [ptrAt pr] (rdF pr a l s) (fun _ : AV => .d (.int .u64 (rQuad l s).1)) (fun b => rdF pr b l (rQuad l s).2) := by
  refine ⟨rd_sat _ _ _ _ _, ?_⟩
  have c1 := fun a => rdLong pr a l hb s h hl
  have c2 := fun a => rdLong pr a l hb (rLong l s).2 (rLong_ok h) hl
  have c3 := fun a => rdErr pr a l (rLong l (rLong l s).2).2
  have hn := rLong_in hb s
  have hn2 := rLong_in hb (rLong l s).2
  simp only [rdF] at c1 c2 c3 ⊢
  intro st t hL; refine pcalls_of k74 e74 (of_decide_eq_true rfl) ?_; dsimp only [c74]; generalize hQ : pfin _ _ = Q
  refine gor hL ?_; (repeat (clear hL; intro t hL; refine gor hL ?_))
  refine po_callK hL ((c1 _)) ?_; clear hL; intro b t hL; have fb := hL.vk b; obtain ⟨fb_r, fb_w, fb_w1, fb_c, fb_s, fb_d⟩ := id fb
  refine gor hL ?_; (repeat (clear hL; intro t hL; refine gor hL ?_))
  refine po_callK hL ((c2 _)) ?_; clear hL; intro b t hL; have fb := hL.vk b; obtain ⟨fb_r, fb_w, fb_w1, fb_c, fb_s, fb_d⟩ := id fb
  refine gor hL ?_; (repeat (clear hL; intro t hL; refine gor hL ?_))
  refine gnm ?_; rw [or64 hn hn2]
  refine gor hL ?_; (repeat (clear hL; intro t hL; refine gor hL ?_)); (repeat (refine pseqk ?_; refine gor hL ?_; (repeat (clear hL; intro t hL; refine gor hL ?_))))
  refine po_callK hL ((c3 _)) ?_; clear hL; intro b t hL; have fb := hL.vk b; obtain ⟨fb_r, fb_w, fb_w1, fb_c, fb_s, fb_d⟩ := id fb
  refine gor hL ?_; (repeat (clear hL; intro t hL; refine gor hL ?_))
  refine pcond_b rfl (fun h2 => ?_) (fun h2 => ?_)
  · have h2' : ¬ (rLong l (rLong l s).2).2.e = 0 := by simpa using h2
    rw [rQuad, if_neg h2'] at hQ
    refine gor hL ?_; (repeat (clear hL; intro t hL; refine gor hL ?_)); (repeat (refine pseqk ?_; refine gor hL ?_; (repeat (clear hL; intro t hL; refine gor hL ?_))))
    rw [← hQ]
    exact pfinK b rfl (.inl rfl) hL
  · have h2' : (rLong l (rLong l s).2).2.e = 0 := by simpa using h2
    rw [rQuad, if_pos h2'] at hQ
    refine gor hL ?_; (repeat (clear hL; intro t hL; refine gor hL ?_)); (repeat (refine pseqk ?_; refine gor hL ?_; (repeat (clear hL; intro t hL; refine gor hL ?_))))
    rw [← hQ]
    exact pfinK b rfl (.inl rfl) hL
theorem rdEnd (pr : Nat) (a : AV) (l : List Int) (s : RS) : CL (PCalls Try.prog GG) 54 [ptrAt pr] (rdF pr a l s) (fun _ : AV => .d (.int .i64 (if s.e = 0 ∧ s.p < l.length then 12 else s.e))) (fun b => rdF pr b l s) := by
  refine ⟨rd_sat _ _ _ _ _, ?_⟩
  have c1 := fun a => rdErr pr a l s
  simp only [rdF] at c1 ⊢
  intro st t hL; refine pcalls_of k54 e54 (of_decide_eq_true rfl) ?_; dsimp only [c54]; generalize hQ : pfin _ _ = Q
  have fv := hL.vk a
  obtain ⟨fv_r, fv_w, fv_w1, fv_c, fv_s, fv_d⟩ := id fv
  by_cases he : s.e = 0
  · rw [he] at hL
    refine gor hL ?_; (repeat (clear hL; intro t hL; refine gor hL ?_))
    refine pcond_b rfl (fun h2 => ?_) (fun h2 => ?_)
    · have h2' : s.p < l.length := by simpa using h2
      rw [if_pos ⟨he, h2'⟩, he] at hQ
      refine gor hL ?_; (repeat (clear hL; intro t hL; refine gor hL ?_)); (repeat (refine pseqk ?_; refine gor hL ?_; (repeat (clear hL; intro t hL; refine gor hL ?_))))
      rw [← hQ]
      exact pfinK a rfl (.inl rfl) hL
    · have h2' : ¬ s.p < l.length := by simpa using h2
      rw [if_neg (fun h => h2' h.2)] at hQ
      rw [← he] at hL
      refine gor hL ?_; (repeat (clear hL; intro t hL; refine gor hL ?_)); (repeat (refine pseqk ?_; refine gor hL ?_; (repeat (clear hL; intro t hL; refine gor hL ?_))))
      refine po_callK hL ((c1 _)) ?_; clear hL; intro b t hL; have fb := hL.vk b; obtain ⟨fb_r, fb_w, fb_w1, fb_c, fb_s, fb_d⟩ := id fb
      refine gor hL ?_; (repeat (clear hL; intro t hL; refine gor hL ?_))
      rw [← hQ]
      exact pfinK b rfl (.inl rfl) hL
  · rw [if_neg (fun h => he h.1)] at hQ
    refine gor hL ?_; (repeat (clear hL; intro t hL; refine gor hL ?_))
    refine gnm ?_; rw [show (s.e == 0) = false by simpa using he]
    refine gor hL ?_; (repeat (clear hL; intro t hL; refine gor hL ?_)); (repeat (refine pseqk ?_; refine gor hL ?_; (repeat (clear hL; intro t hL; refine gor hL ?_))))
    refine po_callK hL ((c1 _)) ?_; clear hL; intro b t hL; have fb := hL.vk b; obtain ⟨fb_r, fb_w, fb_w1, fb_c, fb_s, fb_d⟩ := id fb
    refine gor hL ?_; (repeat (clear hL; intro t hL; refine gor hL ?_))
    rw [← hQ]
    exact pfinK b rfl (.inl rfl) hL
theorem rdRead (l : List Int) (hl : l.length < 2 ^ 40) : CL (PCalls Try.prog GG) 52 [.d (.sl (rowsB l))] [] (fun x : Nat × AV => ptrAt x.1) (fun x => rdF x.1 x.2 l ⟨0, 0⟩) := by
  refine ⟨fun N => ⟨(N, .full (rowsB l)), ?_, ?_⟩, ?_⟩
  · intro x hx
    simp only [rdF, List.mem_cons, List.not_mem_nil, or_false] at hx
    rcases hx with rfl | rfl
    · exact .inr (Nat.le_refl _)
    · rfl
  · simp [rdF, Item.blk, AV.own?]
  simp only [rdF]
  intro st t hL; refine pcalls_of k52 e52 (of_decide_eq_true rfl) ?_; dsimp only [c52]; generalize hQ : pfin _ _ = Q
  refine gor hL ?_; (repeat (clear hL; intro t hL; refine gor hL ?_))
  replace hL := hL.full [] 1
  refine po_appA (rows := []) (hn := rowsB_len _) hL (fun r h => (by cases h)) ?_ ?_
  · simp; omega
  clear hL; intro a t fa hL
  rw [List.nil_append] at hL fa
  obtain ⟨fa_r, fa_w, fa_w1, fa_c, fa_s, fa_d⟩ := id fa
  refine gor hL ?_; (repeat (clear hL; intro t hL; refine gor hL ?_))
  refine po (v := .agg [a, .d (.int .i64 0), .d (.int .i64 0)]) rfl ?_ ?_
  · show (fillCells [.full [], .d (.int .i64 0), .d (.int .i64 0)] [(0, 1, a)]).map AV.agg = _
    simp [fillCells, fa_c]
  (refine gor hL ?_; (repeat (clear hL; intro t hL; refine gor hL ?_))); refine po_boxA hL ?_; clear hL; intro p t hL
  refine gor hL ?_; (repeat (clear hL; intro t hL; refine gor hL ?_))
  rw [← hQ]
  exact pfinK (p, a) rfl (.inl rfl) hL
theorem realOf (n : Nat) (_hn : n < 2 ^ 64) : Pure (PCalls Try.prog GG) 73 [.d (.int .u64 n)] (.tup [.d (.flt .f64 n), .d (.bool (fbits n == (n : Int)))]) := by
  have hB := C60 n
  intro st; refine pcalls_of k73 e73 (of_decide_eq_true rfl) ?_; dsimp only [c73]; refine pstartL ?_; intro t hL; generalize hQ : pfin _ _ = Q
  refine gor hL ?_; (repeat (clear hL; intro t hL; refine gor hL ?_))
  refine gnm ?_; rw [Int.toNat_natCast]
  refine po_c0 (hB) ?_
  refine gor hL ?_; (repeat (clear hL; intro t hL; refine gor hL ?_))
  rw [← hQ]
  exact pfin_pure rfl hL.le
theorem rdText (pr : Nat) (a : AV) (l : List Int) (hb : bytesL l) (s : RS) (h : s.ok l) (hl : l.length < 2 ^ 40) (m : Int) : CL (PCalls Try.prog GG) 75 [ptrAt pr, .d (.int .i64 m)] (rdF pr a l s) (fun _ : AV => .d (.str (rText l s m).1)) (fun b => rdF pr b l (rText l s m).2) := by
  refine ⟨rd_sat _ _ _ _ _, ?_⟩
  have c1 := fun a => rdWithin pr a l hb s h hl m
  have c2 := fun a => rdLeft pr a l (rWithin l s m).2 (rWithin_ok h m) hl
  have c3 := fun a => rdFail pr a l (rWithin l s m).2 3
  have hn := rWithin_in hb s m
  have hq := rText_q (m := m) h
  rw [rText]
  simp only [rdF] at c1 c2 c3 ⊢
  generalize rWithin l s m = R at *
  obtain ⟨n, r⟩ := R
  simp only at *
  obtain ⟨n, rfl⟩ := Int.eq_ofNat_of_zero_le hn.1
  rw [Int.toNat_natCast] at *
  have e0 : IntKind.i64.wrap ((n : Int) + (n : Int).tmod 2) = (txEnd n : Nat) := by
    unfold txEnd; rw [Int.tmod_eq_emod_of_nonneg (by omega), IntWalk.i64_in _ (by omega)]; push_cast; rfl
  have hte : txEnd n = n ∨ txEnd n = n + 1 := by unfold txEnd; omega
  intro st t hL; refine pcalls_of k75 e75 (of_decide_eq_true rfl) ?_; dsimp only [c75]; generalize hQ : pfin _ _ = Q
  refine gor hL ?_; (repeat (clear hL; intro t hL; refine gor hL ?_))
  refine po_callK hL ((c1 _)) ?_; clear hL; intro b t hL; have fb := hL.vk b; obtain ⟨fb_r, fb_w, fb_w1, fb_c, fb_s, fb_d⟩ := id fb
  refine gor hL ?_; (repeat (clear hL; intro t hL; refine gor hL ?_)); (repeat (refine pseqk ?_; refine gor hL ?_; (repeat (clear hL; intro t hL; refine gor hL ?_))))
  refine gnm ?_; rw [IntWalk.rem_in _ _ (by omega)]
  refine gor hL ?_; (repeat (clear hL; intro t hL; refine gor hL ?_))
  refine gnm ?_; rw [show IntKind.i64.wrap ((n : Int) + (n : Int) % 2) = (txEnd n : Nat) by unfold txEnd; rw [IntWalk.i64_in _ (by omega)]; push_cast; rfl]
  refine po_callK hL ((c2 _)) ?_; clear hL; intro b t hL; have fb := hL.vk b; obtain ⟨fb_r, fb_w, fb_w1, fb_c, fb_s, fb_d⟩ := id fb
  refine gor hL ?_; (repeat (clear hL; intro t hL; refine gor hL ?_))
  refine pjoinC (fun s u => ∃ b, s = put (put (put (fun _ => .undef) (some 6) (i64 (txEnd n))) (some 5) (i64 n)) (some 0) (ptrAt pr) ∧ Lay st (rdF pr b l (if (txEnd n : Int) > rLeft l r then rFail r 3 else r)) u) ?_ ?_
  · refine pcond_b rfl (fun h2 => ?_) (fun h2 => ?_)
    · have h2' : (txEnd n : Int) > rLeft l r := by simpa using h2
      simp only [if_pos h2', rdF]
      refine gor hL ?_; (repeat (clear hL; intro t hL; refine gor hL ?_))
      refine po_callK hL ((c3 _)) ?_; clear hL; intro b t hL; have fb := hL.vk b; obtain ⟨fb_r, fb_w, fb_w1, fb_c, fb_s, fb_d⟩ := id fb
      refine gor hL ?_; (repeat (clear hL; intro t hL; refine gor hL ?_))
      exact ⟨b, trimA, hL.pk⟩
    · have h2' : ¬ (txEnd n : Int) > rLeft l r := by simpa using h2
      simp only [if_neg h2', rdF]
      refine gor hL ?_; (repeat (clear hL; intro t hL; refine gor hL ?_))
      exact ⟨b, trimA, hL.pk⟩
  clear hL fb fb_r fb_w fb_w1 fb_c fb_s fb_d b
  generalize (if (txEnd n : Int) > rLeft l r then rFail r 3 else r) = q at *
  rintro s t ⟨b, rfl, hL⟩
  have c4 := fun a => rdErr pr a l q
  simp only [rdF] at c4 hL
  refine gor hL ?_; (repeat (clear hL; intro t hL; refine gor hL ?_))
  refine po_callK hL ((c4 _)) ?_; clear hL; intro b t hL; have fb := hL.vk b; obtain ⟨fb_r, fb_w, fb_w1, fb_c, fb_s, fb_d⟩ := id fb
  refine gor hL ?_; (repeat (clear hL; intro t hL; refine gor hL ?_))
  refine pcond_b rfl (fun h3 => ?_) (fun h3 => ?_)
  · have h3' : ¬ q.e = 0 := by simpa using h3
    rw [if_neg h3'] at hQ
    refine gor hL ?_; (repeat (clear hL; intro t hL; refine gor hL ?_)); (repeat (refine pseqk ?_; refine gor hL ?_; (repeat (clear hL; intro t hL; refine gor hL ?_))))
    rw [← hQ]
    exact pfinK b rfl (.inl rfl) hL
  have h3' : q.e = 0 := by simpa using h3
  have hq2 := hq.2 h3'
  rw [if_pos h3'] at hQ
  rw [h3'] at hL
  refine gor hL ?_; (repeat (clear hL; intro t hL; refine gor hL ?_)); (repeat (refine pseqk ?_; refine gor hL ?_; (repeat (clear hL; intro t hL; refine gor hL ?_))))
  rw [IntWalk.i64_in ((q.p : Int) + (txEnd n : Nat)) (by omega), show (q.p : Int) + (txEnd n : Nat) = ((q.p + txEnd n : Nat) : Int) by omega] at hL
  have c5 := fun a => rdFail pr a l ⟨q.p + txEnd n, 0⟩ 4
  simp only [rdF, rFail, if_true] at c5
  have hfin : ∀ {s' : Slots} {m' : Mx}, Arg.ev GG s' (.t 53) = b → Arg.ev GG s' (.t 59) = i64 q.p → Arg.ev GG s' (.t 67) = i64 (q.p + n : Nat) → (∀ w, pops GG (PCalls Try.prog GG) [⟨some 4, .mov (.t 69), none⟩] (fun x => PEx.next (pwp GG (PCalls Try.prog GG) PCode.ret Q) Q PEx.normal x.sl x.m.st) ⟨put (put s' (some 68) w) (some 69) (.d (.str (strOfL ((l.drop q.p).take n)))), m'⟩) →
      pops GG (PCalls Try.prog GG) [⟨some 68, .slc 1 (.t 53) (some (.t 59)) (some (.t 67)), none⟩, ⟨some 69, .strOf (.t 68), none⟩, ⟨some 4, .mov (.t 69), none⟩] (fun x => PEx.next (pwp GG (PCalls Try.prog GG) PCode.ret Q) Q PEx.normal x.sl x.m.st) ⟨s', m'⟩ := by
    intro s' m' g1 g2 g3 g4
    obtain ⟨w, hw, hwr⟩ := slc_mid fb g1 g2 g3 (by omega) (show q.p + n ≤ l.length by omega)
    refine po rfl hw ?_
    rw [List.drop_take, show q.p + n - q.p = n by omega] at hwr
    refine po rfl ?_ (g4 w)
    show ((put s' (some 68) w 68).rows?.bind strOfRows).map _ = _
    rw [show put s' (some 68) w 68 = w from rfl, hwr, Option.bind_some, strOf_rowsB]; rfl
  have e5 : IntKind.i64.wrap (((q.p + txEnd n : Nat) : Int) - (txEnd n : Nat)) = q.p := by rw [IntWalk.i64_in _ (by omega)]; omega
  have e6 : IntKind.i64.wrap ((q.p : Int) + n) = (q.p + n : Nat) := by rw [IntWalk.i64_in _ (by omega)]; omega
  rcases hte with h4 | h4
  · rw [if_neg (fun h => by omega)] at hQ
    refine gnm ?_; rw [show decide ((n : Int) < (txEnd n : Nat)) = false by simp; omega]
    refine gor hL ?_; (repeat (clear hL; intro t hL; refine gor hL ?_))
    refine gnm ?_; rw [e5, e6]
    refine hfin rfl rfl rfl fun w => ?_
    refine gor hL ?_; (repeat (clear hL; intro t hL; refine gor hL ?_))
    rw [← hQ]
    exact pfinK b rfl (.inl rfl) hL
  · have hz : l[q.p + txEnd n - 1]? = some (l.getD (q.p + txEnd n - 1) 0) := by rw [List.getD_eq_getElem?_getD, List.getElem?_eq_getElem (by omega)]; rfl
    generalize l.getD (q.p + txEnd n - 1) 0 = z at *
    refine gnm ?_; rw [show decide ((n : Int) < (txEnd n : Nat)) = true by simp; omega]
    refine gor hL ?_; (repeat (clear hL; intro t hL; refine gor hL ?_))
    refine gnm ?_; rw [IntWalk.i64_in ((q.p : Int) + (txEnd n : Nat)) (by omega), IntWalk.i64_in ((q.p : Int) + (txEnd n : Nat) - 1) (by omega), show (q.p : Int) + (txEnd n : Nat) - 1 = ((q.p + txEnd n - 1 : Nat) : Int) by omega]
    refine po_iaddrM (f := fun n => [.int .u8 n]) (k := q.p + txEnd n - 1) rfl fb_r rfl hz rfl ?_
    refine gor hL ?_; (repeat (clear hL; intro t hL; refine gor hL ?_))
    refine pcond_b rfl (fun h5 => ?_) (fun h5 => ?_)
    · have h5' : z ≠ 0 := by simpa using h5
      rw [if_pos ⟨by omega, h5'⟩] at hQ
      refine gor hL ?_; (repeat (clear hL; intro t hL; refine gor hL ?_))
      refine po_callK hL ((c5 _)) ?_; clear hL; intro b' t hL; have fb' := hL.vk b'; obtain ⟨fb'_r, fb'_w, fb'_w1, fb'_c, fb'_s, fb'_d⟩ := id fb'
      refine gor hL ?_; (repeat (clear hL; intro t hL; refine gor hL ?_)); (repeat (refine pseqk ?_; refine gor hL ?_; (repeat (clear hL; intro t hL; refine gor hL ?_))))
      rw [← hQ]
      exact pfinK b' rfl (.inl rfl) hL
    · have h5' : z = 0 := by simpa using h5
      rw [if_neg (fun h => h.2 h5')] at hQ
      refine gor hL ?_; (repeat (clear hL; intro t hL; refine gor hL ?_))
      refine gnm ?_; rw [e5, e6]
      refine hfin rfl rfl rfl fun w => ?_
      refine gor hL ?_; (repeat (clear hL; intro t hL; refine gor hL ?_))
      rw [← hQ]
      exact pfinK b rfl (.inl rfl) hL
end Go.Pv
