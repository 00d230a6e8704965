/- Functions of the program, by value. No condition. -/
import Derived.Test.YtmkfohiocklkoaaDoorL4
import Derived.Test.YtmkfohiocklkoaaDoorD6
namespace Go.Pv
open Go.Proofs
set_option maxRecDepth 100000
set_option maxHeartbeats 8000000

/-- slices.EqualFunc[[]prompter/kind.Alias,[]prompter/kind.Alias,prompter/kind.Alias,prompter/kind.Alias] -/
abbrev c36_2 : PCode :=
 (.seq (.region [⟨(.some 6), (.mov (.c (.d (.bool .false)))), .none⟩])
 .ret)
abbrev c36_1 : PCode :=
 (.cond (.t 14)
  c36_2
  .skip)
abbrev c36_9 : PCode :=
 (.seq (.region [⟨(.some 6), (.mov (.c (.d (.bool .false)))), .none⟩])
 .ret)
abbrev c36_8 : PCode :=
 (.cond (.t 30)
  c36_9
  .skip)
abbrev c36_7 : PCode :=
 (.keep [1, 2, 8, 9, 15, 16, 17] (.seq (.region [⟨(.some 26), (.mov (.t 2)), .none⟩,
   ⟨(.some 27), (.load .true 5 (.t 8) .false), .none⟩,
   ⟨(.some 28), (.load .true 5 (.t 9) .false), .none⟩,
   ⟨(.some 29), (.callv0 (.t 26) [(.t 27), (.t 28)]), .none⟩,
   ⟨(.some 30), (.not (.t 29)), .none⟩])
 c36_8))
abbrev c36_6 : PCode :=
 (.keep [1, 2, 7, 8, 15, 16, 17] (.seq (.region [⟨(.some 22), (.mov (.t 1)), .none⟩,
   ⟨(.some 23), (.mov (.t 7)), .none⟩,
   ⟨(.some 24), (.iaddr 5 (.t 22) (.t 23)), .none⟩,
   ⟨(.some 25), (.load .true 5 (.t 24) .false), .none⟩,
   ⟨(.some 9), (.alloc [(.d (.str (bs []))), (.d (.int .u8 0)), (.d (.int .i64 0)), (.full []), (.full [])]), .none⟩,
   ⟨.none, (.store 5 (.t 9) (.t 25)), .none⟩])
 c36_7))
abbrev c36_5 : PCode :=
 (.block 1 (.seq (.region [⟨(.some 19), (.mov (.t 17)), .none⟩,
   ⟨(.some 20), (.iaddr 5 (.t 15) (.t 17)), .none⟩,
   ⟨(.some 21), (.load .true 5 (.t 20) .false), .none⟩,
   ⟨(.some 8), (.alloc [(.d (.str (bs []))), (.d (.int .u8 0)), (.d (.int .i64 0)), (.full []), (.full [])]), .none⟩,
   ⟨(.some 7), (.mov (.t 19)), .none⟩,
   ⟨.none, (.store 5 (.t 8) (.t 21)), .none⟩])
 c36_6))
abbrev c36_4 : PCode :=
 (.keep [1, 2, 15, 16, 17] (.block 0 (.loop (.some [17, 1, 2, 15, 16]) (.seq (.region [⟨(.some 18), (.bin .lss (.t 17) (.t 16)), .none⟩])
 (.seq (.cond (.t 18)
  .skip
  (.exit 0))
 (.seq c36_5
 (.region [⟨(.some 31), (.bin .add (.t 17) (.c (.d (.int .i64 1)))), .none⟩,
   ⟨(.some 17), (.mov (.t 31)), .none⟩])))))))
abbrev c36_10 : PCode :=
 (.seq (.region [⟨(.some 6), (.mov (.c (.d (.bool .true)))), .none⟩])
 .ret)
abbrev c36_3 : PCode :=
 (.keep [0, 1, 2] (.seq (.seq (.region [⟨(.some 15), (.mov (.t 0)), .none⟩,
   ⟨(.some 16), (.len (.t 15)), .none⟩,
   ⟨(.some 17), (.mov (.c (.d (.int .i64 0)))), .none⟩])
 c36_4)
 c36_10))
abbrev c36_0 : PCode :=
 (.seq (.seq (.region [⟨(.some 10), (.mov (.t 0)), .none⟩,
   ⟨(.some 11), (.len (.t 10)), .none⟩,
   ⟨(.some 12), (.mov (.t 1)), .none⟩,
   ⟨(.some 13), (.len (.t 12)), .none⟩,
   ⟨(.some 14), (.bin .neq (.t 11) (.t 13)), .none⟩])
 c36_1)
 c36_3)
def c36 : PFun := ⟨
 (.seq (.region [⟨(.some 6), (.mov (.c (.d (.bool .false)))), .none⟩])
 c36_0),
 3, 32, [(.tmp 6)]⟩

/-- slices.Equal[[]prompter/kind.Fault,prompter/kind.Fault] -/
abbrev c38_2 : PCode :=
 (.seq (.region [⟨(.some 4), (.mov (.c (.d (.bool .false)))), .none⟩])
 .ret)
abbrev c38_1 : PCode :=
 (.cond (.t 10)
  c38_2
  .skip)
abbrev c38_8 : PCode :=
 (.seq (.region [⟨(.some 4), (.mov (.c (.d (.bool .false)))), .none⟩])
 .ret)
abbrev c38_7 : PCode :=
 (.cond (.t 24)
  c38_8
  .skip)
abbrev c38_6 : PCode :=
 (.seq (.region [⟨(.some 16), (.mov (.t 0)), .none⟩,
   ⟨(.some 17), (.mov (.t 5)), .none⟩,
   ⟨(.some 18), (.iaddr 2 (.t 16) (.t 17)), .none⟩,
   ⟨(.some 19), (.load .true 2 (.t 18) .false), .none⟩,
   ⟨(.some 20), (.mov (.t 1)), .none⟩,
   ⟨(.some 21), (.mov (.t 5)), .none⟩,
   ⟨(.some 22), (.iaddr 2 (.t 20) (.t 21)), .none⟩,
   ⟨(.some 23), (.load .true 2 (.t 22) .false), .none⟩,
   ⟨(.some 24), (.eqAgg .true [2, 1] (.t 19) (.t 23)), .none⟩])
 c38_7)
abbrev c38_5 : PCode :=
 (.block 1 (.seq (.region [⟨(.some 15), (.mov (.t 13)), .none⟩,
   ⟨(.some 5), (.mov (.t 15)), .none⟩])
 c38_6))
abbrev c38_4 : PCode :=
 (.keep [0, 1, 12, 13] (.block 0 (.loop (.some [13, 0, 1, 12]) (.seq (.region [⟨(.some 14), (.bin .lss (.t 13) (.t 12)), .none⟩])
 (.seq (.cond (.t 14)
  .skip
  (.exit 0))
 (.seq c38_5
 (.region [⟨(.some 25), (.bin .add (.t 13) (.c (.d (.int .i64 1)))), .none⟩,
   ⟨(.some 13), (.mov (.t 25)), .none⟩])))))))
abbrev c38_9 : PCode :=
 (.seq (.region [⟨(.some 4), (.mov (.c (.d (.bool .true)))), .none⟩])
 .ret)
abbrev c38_3 : PCode :=
 (.keep [0, 1] (.seq (.seq (.region [⟨(.some 11), (.mov (.t 0)), .none⟩,
   ⟨(.some 12), (.len (.t 11)), .none⟩,
   ⟨(.some 13), (.mov (.c (.d (.int .i64 0)))), .none⟩])
 c38_4)
 c38_9))
abbrev c38_0 : PCode :=
 (.seq (.seq (.region [⟨(.some 6), (.mov (.t 0)), .none⟩,
   ⟨(.some 7), (.len (.t 6)), .none⟩,
   ⟨(.some 8), (.mov (.t 1)), .none⟩,
   ⟨(.some 9), (.len (.t 8)), .none⟩,
   ⟨(.some 10), (.bin .neq (.t 7) (.t 9)), .none⟩])
 c38_1)
 c38_3)
def c38 : PFun := ⟨
 (.seq (.region [⟨(.some 4), (.mov (.c (.d (.bool .false)))), .none⟩])
 c38_0),
 2, 26, [(.tmp 4)]⟩

/-- slices.EqualFunc[[]prompter/kind.Proc,[]prompter/kind.Proc,prompter/kind.Proc,prompter/kind.Proc] -/
abbrev c39_2 : PCode :=
 (.seq (.region [⟨(.some 6), (.mov (.c (.d (.bool .false)))), .none⟩])
 .ret)
abbrev c39_1 : PCode :=
 (.cond (.t 14)
  c39_2
  .skip)
abbrev c39_9 : PCode :=
 (.seq (.region [⟨(.some 6), (.mov (.c (.d (.bool .false)))), .none⟩])
 .ret)
abbrev c39_8 : PCode :=
 (.cond (.t 30)
  c39_9
  .skip)
abbrev c39_7 : PCode :=
 (.keep [1, 2, 8, 9, 15, 16, 17] (.seq (.region [⟨(.some 26), (.mov (.t 2)), .none⟩,
   ⟨(.some 27), (.load .true 12 (.t 8) .false), .none⟩,
   ⟨(.some 28), (.load .true 12 (.t 9) .false), .none⟩,
   ⟨(.some 29), (.callv0 (.t 26) [(.t 27), (.t 28)]), .none⟩,
   ⟨(.some 30), (.not (.t 29)), .none⟩])
 c39_8))
abbrev c39_6 : PCode :=
 (.keep [1, 2, 7, 8, 15, 16, 17] (.seq (.region [⟨(.some 22), (.mov (.t 1)), .none⟩,
   ⟨(.some 23), (.mov (.t 7)), .none⟩,
   ⟨(.some 24), (.iaddr 12 (.t 22) (.t 23)), .none⟩,
   ⟨(.some 25), (.load .true 12 (.t 24) .false), .none⟩,
   ⟨(.some 9), (.alloc [(.d (.str (bs []))), (.d (.int .i64 0)), (.d (.int .u8 0)), (.d (.int .i64 0)), (.full []), (.full []), (.d (.int .u8 0)), (.d (.int .i64 0)), (.full []), (.full []), (.d (.int .u8 0)), (.d (.int .i64 0))]), .none⟩,
   ⟨.none, (.store 12 (.t 9) (.t 25)), .none⟩])
 c39_7))
abbrev c39_5 : PCode :=
 (.block 1 (.seq (.region [⟨(.some 19), (.mov (.t 17)), .none⟩,
   ⟨(.some 20), (.iaddr 12 (.t 15) (.t 17)), .none⟩,
   ⟨(.some 21), (.load .true 12 (.t 20) .false), .none⟩,
   ⟨(.some 8), (.alloc [(.d (.str (bs []))), (.d (.int .i64 0)), (.d (.int .u8 0)), (.d (.int .i64 0)), (.full []), (.full []), (.d (.int .u8 0)), (.d (.int .i64 0)), (.full []), (.full []), (.d (.int .u8 0)), (.d (.int .i64 0))]), .none⟩,
   ⟨(.some 7), (.mov (.t 19)), .none⟩,
   ⟨.none, (.store 12 (.t 8) (.t 21)), .none⟩])
 c39_6))
abbrev c39_4 : PCode :=
 (.keep [1, 2, 15, 16, 17] (.block 0 (.loop (.some [17, 1, 2, 15, 16]) (.seq (.region [⟨(.some 18), (.bin .lss (.t 17) (.t 16)), .none⟩])
 (.seq (.cond (.t 18)
  .skip
  (.exit 0))
 (.seq c39_5
 (.region [⟨(.some 31), (.bin .add (.t 17) (.c (.d (.int .i64 1)))), .none⟩,
   ⟨(.some 17), (.mov (.t 31)), .none⟩])))))))
abbrev c39_10 : PCode :=
 (.seq (.region [⟨(.some 6), (.mov (.c (.d (.bool .true)))), .none⟩])
 .ret)
abbrev c39_3 : PCode :=
 (.keep [0, 1, 2] (.seq (.seq (.region [⟨(.some 15), (.mov (.t 0)), .none⟩,
   ⟨(.some 16), (.len (.t 15)), .none⟩,
   ⟨(.some 17), (.mov (.c (.d (.int .i64 0)))), .none⟩])
 c39_4)
 c39_10))
abbrev c39_0 : PCode :=
 (.seq (.seq (.region [⟨(.some 10), (.mov (.t 0)), .none⟩,
   ⟨(.some 11), (.len (.t 10)), .none⟩,
   ⟨(.some 12), (.mov (.t 1)), .none⟩,
   ⟨(.some 13), (.len (.t 12)), .none⟩,
   ⟨(.some 14), (.bin .neq (.t 11) (.t 13)), .none⟩])
 c39_1)
 c39_3)
def c39 : PFun := ⟨
 (.seq (.region [⟨(.some 6), (.mov (.c (.d (.bool .false)))), .none⟩])
 c39_0),
 3, 32, [(.tmp 6)]⟩

/-- prompter/kind.Alike$1 -/
abbrev c37_0 : PCode :=
 (.keep [2, 3] (.seq (.region [⟨(.some 5), (.faddr 0 (.t 2)), .none⟩,
   ⟨(.some 6), (.load .false 1 (.t 5) .false), .none⟩,
   ⟨(.some 7), (.faddr 0 (.t 3)), .none⟩,
   ⟨(.some 8), (.load .false 1 (.t 7) .false), .none⟩,
   ⟨(.some 9), (.bin .eql (.t 6) (.t 8)), .none⟩,
   ⟨(.some 10), (.mov (.t 9)), .none⟩,
   ⟨(.some 11), (.faddr 1 (.t 2)), (.some (10, .true))⟩,
   ⟨(.some 12), (.load .true 4 (.t 11) .false), (.some (10, .true))⟩,
   ⟨(.some 13), (.faddr 1 (.t 3)), (.some (10, .true))⟩,
   ⟨(.some 14), (.load .true 4 (.t 13) .false), (.some (10, .true))⟩,
   ⟨(.some 15), (.call0 17 [(.t 12), (.t 14)]), (.some (10, .true))⟩,
   ⟨(.some 16), (.pick (.t 10) (.t 15) (.c (.d (.bool .false)))), .none⟩,
   ⟨(.some 4), (.mov (.t 16)), .none⟩])
 .ret))
def c37 : PFun := ⟨
 (.seq (.region [⟨(.some 2), (.box 5 (.t 0)), .none⟩,
   ⟨(.some 3), (.box 5 (.t 1)), .none⟩,
   ⟨(.some 4), (.mov (.c (.d (.bool .false)))), .none⟩])
 c37_0),
 2, 17, [(.tmp 4)]⟩

/-- (prompter/kind.Proc).same -/
abbrev c40_0 : PCode :=
 (.keep [2, 3] (.seq (.region [⟨(.some 5), (.faddr 0 (.t 2)), .none⟩,
   ⟨(.some 6), (.load .false 1 (.t 5) .false), .none⟩,
   ⟨(.some 7), (.faddr 0 (.t 3)), .none⟩,
   ⟨(.some 8), (.load .false 1 (.t 7) .false), .none⟩,
   ⟨(.some 9), (.bin .eql (.t 6) (.t 8)), .none⟩,
   ⟨(.some 10), (.mov (.t 9)), .none⟩,
   ⟨(.some 11), (.faddr 1 (.t 2)), (.some (10, .true))⟩,
   ⟨(.some 12), (.load .false 1 (.t 11) .false), (.some (10, .true))⟩,
   ⟨(.some 13), (.faddr 1 (.t 3)), (.some (10, .true))⟩,
   ⟨(.some 14), (.load .false 1 (.t 13) .false), (.some (10, .true))⟩,
   ⟨(.some 15), (.bin .eql (.t 12) (.t 14)), (.some (10, .true))⟩,
   ⟨(.some 16), (.pick (.t 10) (.t 15) (.c (.d (.bool .false)))), .none⟩,
   ⟨(.some 17), (.mov (.t 16)), .none⟩,
   ⟨(.some 18), (.faddr 2 (.t 2)), (.some (17, .true))⟩,
   ⟨(.some 19), (.load .true 4 (.t 18) .false), (.some (17, .true))⟩,
   ⟨(.some 20), (.faddr 2 (.t 3)), (.some (17, .true))⟩,
   ⟨(.some 21), (.load .true 4 (.t 20) .false), (.some (17, .true))⟩,
   ⟨(.some 22), (.call0 17 [(.t 19), (.t 21)]), (.some (17, .true))⟩,
   ⟨(.some 23), (.pick (.t 17) (.t 22) (.c (.d (.bool .false)))), .none⟩,
   ⟨(.some 24), (.mov (.t 23)), .none⟩,
   ⟨(.some 25), (.faddr 6 (.t 2)), (.some (24, .true))⟩,
   ⟨(.some 26), (.load .true 4 (.t 25) .false), (.some (24, .true))⟩,
   ⟨(.some 27), (.faddr 6 (.t 3)), (.some (24, .true))⟩,
   ⟨(.some 28), (.load .true 4 (.t 27) .false), (.some (24, .true))⟩,
   ⟨(.some 29), (.call0 17 [(.t 26), (.t 28)]), (.some (24, .true))⟩,
   ⟨(.some 30), (.pick (.t 24) (.t 29) (.c (.d (.bool .false)))), .none⟩,
   ⟨(.some 31), (.mov (.t 30)), .none⟩,
   ⟨(.some 32), (.faddr 10 (.t 2)), (.some (31, .true))⟩,
   ⟨(.some 33), (.load .false 1 (.t 32) .false), (.some (31, .true))⟩,
   ⟨(.some 34), (.faddr 10 (.t 3)), (.some (31, .true))⟩,
   ⟨(.some 35), (.load .false 1 (.t 34) .false), (.some (31, .true))⟩,
   ⟨(.some 36), (.bin .eql (.t 33) (.t 35)), (.some (31, .true))⟩,
   ⟨(.some 37), (.pick (.t 31) (.t 36) (.c (.d (.bool .false)))), .none⟩,
   ⟨(.some 38), (.mov (.t 37)), .none⟩,
   ⟨(.some 39), (.faddr 11 (.t 2)), (.some (38, .true))⟩,
   ⟨(.some 40), (.load .false 1 (.t 39) .false), (.some (38, .true))⟩,
   ⟨(.some 41), (.faddr 11 (.t 3)), (.some (38, .true))⟩,
   ⟨(.some 42), (.load .false 1 (.t 41) .false), (.some (38, .true))⟩,
   ⟨(.some 43), (.bin .eql (.t 40) (.t 42)), (.some (38, .true))⟩,
   ⟨(.some 44), (.pick (.t 38) (.t 43) (.c (.d (.bool .false)))), .none⟩,
   ⟨(.some 4), (.mov (.t 44)), .none⟩])
 .ret))
def c40 : PFun := ⟨
 (.seq (.region [⟨(.some 2), (.box 12 (.t 0)), .none⟩,
   ⟨(.some 3), (.box 12 (.t 1)), .none⟩,
   ⟨(.some 4), (.mov (.c (.d (.bool .false)))), .none⟩])
 c40_0),
 2, 45, [(.tmp 4)]⟩

/-- prompter/kind.Alike -/
abbrev c19_0 : PCode :=
 (.keep [2, 3] (.seq (.region [⟨(.some 5), (.faddr 0 (.t 2)), .none⟩,
   ⟨(.some 6), (.load .false 1 (.t 5) .false), .none⟩,
   ⟨(.some 7), (.faddr 0 (.t 3)), .none⟩,
   ⟨(.some 8), (.load .false 1 (.t 7) .false), .none⟩,
   ⟨(.some 9), (.bin .eql (.t 6) (.t 8)), .none⟩,
   ⟨(.some 10), (.mov (.t 9)), .none⟩,
   ⟨(.some 11), (.faddr 1 (.t 2)), (.some (10, .true))⟩,
   ⟨(.some 12), (.load .false 1 (.t 11) .false), (.some (10, .true))⟩,
   ⟨(.some 13), (.faddr 1 (.t 3)), (.some (10, .true))⟩,
   ⟨(.some 14), (.load .false 1 (.t 13) .false), (.some (10, .true))⟩,
   ⟨(.some 15), (.bin .eql (.t 12) (.t 14)), (.some (10, .true))⟩,
   ⟨(.some 16), (.pick (.t 10) (.t 15) (.c (.d (.bool .false)))), .none⟩,
   ⟨(.some 17), (.mov (.t 16)), .none⟩,
   ⟨(.some 18), (.faddr 2 (.t 2)), (.some (17, .true))⟩,
   ⟨(.some 19), (.load .false 1 (.t 18) .false), (.some (17, .true))⟩,
   ⟨(.some 20), (.faddr 2 (.t 3)), (.some (17, .true))⟩,
   ⟨(.some 21), (.load .false 1 (.t 20) .false), (.some (17, .true))⟩,
   ⟨(.some 22), (.bin .eql (.t 19) (.t 21)), (.some (17, .true))⟩,
   ⟨(.some 23), (.pick (.t 17) (.t 22) (.c (.d (.bool .false)))), .none⟩,
   ⟨(.some 24), (.mov (.t 23)), .none⟩,
   ⟨(.some 25), (.faddr 3 (.t 2)), (.some (24, .true))⟩,
   ⟨(.some 26), (.load .false 1 (.t 25) .false), (.some (24, .true))⟩,
   ⟨(.some 27), (.faddr 3 (.t 3)), (.some (24, .true))⟩,
   ⟨(.some 28), (.load .false 1 (.t 27) .false), (.some (24, .true))⟩,
   ⟨(.some 29), (.call0 36 [(.t 26), (.t 28), (.c (.d (.fn 37 [] [])))]), (.some (24, .true))⟩,
   ⟨(.some 30), (.pick (.t 24) (.t 29) (.c (.d (.bool .false)))), .none⟩,
   ⟨(.some 31), (.mov (.t 30)), .none⟩,
   ⟨(.some 32), (.faddr 4 (.t 2)), (.some (31, .true))⟩,
   ⟨(.some 33), (.load .false 1 (.t 32) .false), (.some (31, .true))⟩,
   ⟨(.some 34), (.faddr 4 (.t 3)), (.some (31, .true))⟩,
   ⟨(.some 35), (.load .false 1 (.t 34) .false), (.some (31, .true))⟩,
   ⟨(.some 36), (.call0 38 [(.t 33), (.t 35)]), (.some (31, .true))⟩,
   ⟨(.some 37), (.pick (.t 31) (.t 36) (.c (.d (.bool .false)))), .none⟩,
   ⟨(.some 38), (.mov (.t 37)), .none⟩,
   ⟨(.some 39), (.faddr 5 (.t 2)), (.some (38, .true))⟩,
   ⟨(.some 40), (.load .false 1 (.t 39) .false), (.some (38, .true))⟩,
   ⟨(.some 41), (.faddr 5 (.t 3)), (.some (38, .true))⟩,
   ⟨(.some 42), (.load .false 1 (.t 41) .false), (.some (38, .true))⟩,
   ⟨(.some 43), (.call0 39 [(.t 40), (.t 42), (.c (.d (.fn 40 [] [])))]), (.some (38, .true))⟩,
   ⟨(.some 44), (.pick (.t 38) (.t 43) (.c (.d (.bool .false)))), .none⟩,
   ⟨(.some 4), (.mov (.t 44)), .none⟩])
 .ret))
def c19 : PFun := ⟨
 (.seq (.region [⟨(.some 2), (.box 6 (.t 0)), .none⟩,
   ⟨(.some 3), (.box 6 (.t 1)), .none⟩,
   ⟨(.some 4), (.mov (.c (.d (.bool .false)))), .none⟩])
 c19_0),
 2, 45, [(.tmp 4)]⟩

/-- (prompter/kind.Table).Find -/
abbrev c21_5 : PCode :=
 (.seq (.region [⟨(.some 19), (.load .true 12 (.t 7) .false), .none⟩,
   ⟨.none, (.store 12 (.t 4) (.t 19)), .none⟩,
   ⟨(.some 5), (.mov (.c (.d (.bool .true)))), .none⟩])
 .ret)
abbrev c21_4 : PCode :=
 (.cond (.t 18)
  c21_5
  .skip)
abbrev c21_3 : PCode :=
 (.keep [1, 4, 7, 9, 10, 11] (.seq (.region [⟨(.some 15), (.faddr 1 (.t 7)), .none⟩,
   ⟨(.some 16), (.load .false 1 (.t 15) .false), .none⟩,
   ⟨(.some 17), (.mov (.t 1)), .none⟩,
   ⟨(.some 18), (.bin .eql (.t 16) (.t 17)), .none⟩])
 c21_4))
abbrev c21_2 : PCode :=
 (.block 1 (.seq (.region [⟨(.some 13), (.iaddr 12 (.t 9) (.t 11)), .none⟩,
   ⟨(.some 14), (.load .true 12 (.t 13) .false), .none⟩,
   ⟨(.some 7), (.alloc [(.d (.str (bs []))), (.d (.int .i64 0)), (.d (.int .u8 0)), (.d (.int .i64 0)), (.full []), (.full []), (.d (.int .u8 0)), (.d (.int .i64 0)), (.full []), (.full []), (.d (.int .u8 0)), (.d (.int .i64 0))]), .none⟩,
   ⟨.none, (.store 12 (.t 7) (.t 14)), .none⟩])
 c21_3))
abbrev c21_1 : PCode :=
 (.keep [1, 4, 9, 10, 11] (.block 0 (.loop (.some [11, 1, 4, 9, 10]) (.seq (.region [⟨(.some 12), (.bin .lss (.t 11) (.t 10)), .none⟩])
 (.seq (.cond (.t 12)
  .skip
  (.exit 0))
 (.seq c21_2
 (.region [⟨(.some 20), (.bin .add (.t 11) (.c (.d (.int .i64 1)))), .none⟩,
   ⟨(.some 11), (.mov (.t 20)), .none⟩])))))))
abbrev c21_6 : PCode :=
 (.seq (.region [⟨(.some 21), (.bld [(.d (.str (bs []))), (.d (.int .i64 0)), (.d (.int .u8 0)), (.d (.int .i64 0)), (.full []), (.full []), (.d (.int .u8 0)), (.d (.int .i64 0)), (.full []), (.full []), (.d (.int .u8 0)), (.d (.int .i64 0))] []), .none⟩,
   ⟨.none, (.store 12 (.t 4) (.t 21)), .none⟩,
   ⟨(.some 5), (.mov (.c (.d (.bool .false)))), .none⟩])
 .ret)
abbrev c21_0 : PCode :=
 (.keep [1, 2, 4] (.seq (.seq (.region [⟨(.some 8), (.faddr 5 (.t 2)), .none⟩,
   ⟨(.some 9), (.load .false 1 (.t 8) .false), .none⟩,
   ⟨(.some 10), (.len (.t 9)), .none⟩,
   ⟨(.some 11), (.mov (.c (.d (.int .i64 0)))), .none⟩])
 c21_1)
 c21_6))
def c21 : PFun := ⟨
 (.seq (.region [⟨(.some 2), (.box 6 (.t 0)), .none⟩,
   ⟨(.some 4), (.alloc [(.d (.str (bs []))), (.d (.int .i64 0)), (.d (.int .u8 0)), (.d (.int .i64 0)), (.full []), (.full []), (.d (.int .u8 0)), (.d (.int .i64 0)), (.full []), (.full []), (.d (.int .u8 0)), (.d (.int .i64 0))]), .none⟩,
   ⟨(.some 5), (.mov (.c (.d (.bool .false)))), .none⟩])
 c21_0),
 2, 22, [(.cell 4 .true 12), (.tmp 5)]⟩

/-- prompter/prompterlaw05.parts -/
abbrev c18_7 : PCode :=
 (.seq (.region [⟨(.some 30), (.faddr 3 (.t 3)), .none⟩,
   ⟨(.some 31), (.load .false 1 (.t 30) .false), .none⟩,
   ⟨(.some 32), (.mov (.t 7)), .none⟩,
   ⟨(.some 33), (.slc 5 (.t 31) .none (.some (.t 32))), .none⟩,
   ⟨(.some 34), (.bld [(.d (.str (bs []))), (.d (.int .i64 0)), (.d (.int .i64 0)), (.full []), (.full []), (.full [])] [(3, (1, (.t 33)))]), .none⟩,
   ⟨(.some 35), (.faddr 1 (.t 8)), .none⟩,
   ⟨(.some 36), (.load .true 4 (.t 35) .false), .none⟩,
   ⟨(.some 37), (.mov (.t 2)), .none⟩,
   ⟨(.some 38), (.call0 18 [(.t 34), (.t 36), (.t 37)]), .none⟩,
   ⟨(.some 6), (.mov (.t 38)), .none⟩])
 .ret)
abbrev c18_6 : PCode :=
 (.cond (.t 29)
  c18_7
  .skip)
abbrev c18_5 : PCode :=
 (.keep [2, 3, 4, 7, 8, 16, 17, 18] (.seq (.region [⟨(.some 23), (.faddr 0 (.t 8)), .none⟩,
   ⟨(.some 24), (.load .false 1 (.t 23) .false), .none⟩,
   ⟨(.some 25), (.faddr 2 (.t 4)), .none⟩,
   ⟨(.some 26), (.load .false 1 (.t 25) .false), .none⟩,
   ⟨(.some 27), (.iaddr 1 (.t 26) (.c (.d (.int .i64 0)))), .none⟩,
   ⟨(.some 28), (.load .false 1 (.t 27) .false), .none⟩,
   ⟨(.some 29), (.bin .eql (.t 24) (.t 28)), .none⟩])
 c18_6))
abbrev c18_4 : PCode :=
 (.block 1 (.seq (.region [⟨(.some 20), (.mov (.t 18)), .none⟩,
   ⟨(.some 21), (.iaddr 5 (.t 16) (.t 18)), .none⟩,
   ⟨(.some 22), (.load .true 5 (.t 21) .false), .none⟩,
   ⟨(.some 8), (.alloc [(.d (.str (bs []))), (.d (.int .u8 0)), (.d (.int .i64 0)), (.full []), (.full [])]), .none⟩,
   ⟨(.some 7), (.mov (.t 20)), .none⟩,
   ⟨.none, (.store 5 (.t 8) (.t 22)), .none⟩])
 c18_5))
abbrev c18_3 : PCode :=
 (.keep [2, 3, 4, 16, 17, 18] (.block 0 (.loop (.some [18, 2, 3, 4, 16, 17]) (.seq (.region [⟨(.some 19), (.bin .lss (.t 18) (.t 17)), .none⟩])
 (.seq (.cond (.t 19)
  .skip
  (.exit 0))
 (.seq c18_4
 (.region [⟨(.some 39), (.bin .add (.t 18) (.c (.d (.int .i64 1)))), .none⟩,
   ⟨(.some 18), (.mov (.t 39)), .none⟩])))))))
abbrev c18_2 : PCode :=
 (.seq (.region [⟨(.some 15), (.faddr 3 (.t 3)), .none⟩,
   ⟨(.some 16), (.load .false 1 (.t 15) .false), .none⟩,
   ⟨(.some 17), (.len (.t 16)), .none⟩,
   ⟨(.some 18), (.mov (.c (.d (.int .i64 0)))), .none⟩])
 c18_3)
abbrev c18_1 : PCode :=
 (.cond (.t 14)
  c18_2
  .skip)
abbrev c18_14 : PCode :=
 (.region [⟨(.some 49), (.mov (.t 9)), .none⟩,
   ⟨(.some 50), (.load .true 6 (.t 3) .false), .none⟩,
   ⟨(.some 51), (.load .true 4 (.t 11) .false), .none⟩,
   ⟨(.some 52), (.mov (.t 2)), .none⟩,
   ⟨(.some 53), (.call0 18 [(.t 50), (.t 51), (.t 52)]), .none⟩,
   ⟨(.some 54), (.bin .add (.t 49) (.t 53)), .none⟩,
   ⟨(.some 9), (.mov (.t 54)), .none⟩])
abbrev c18_13 : PCode :=
 (.cond (.t 48)
  c18_14
  .skip)
abbrev c18_12 : PCode :=
 (.keep [2, 3, 9, 11, 41, 42, 43] (.seq (.region [⟨(.some 47), (.mov (.t 9)), .none⟩,
   ⟨(.some 48), (.bin .lss (.t 47) (.c (.d (.int .i64 1000)))), .none⟩])
 c18_13))
abbrev c18_11 : PCode :=
 (.block 3 (.seq (.region [⟨(.some 45), (.iaddr 4 (.t 41) (.t 43)), .none⟩,
   ⟨(.some 46), (.load .true 4 (.t 45) .false), .none⟩,
   ⟨(.some 11), (.alloc [(.d (.int .u8 0)), (.d (.int .i64 0)), (.full []), (.full [])]), .none⟩,
   ⟨.none, (.store 4 (.t 11) (.t 46)), .none⟩])
 c18_12))
abbrev c18_10 : PCode :=
 (.keep [2, 3, 9, 41, 42, 43] (.block 2 (.loop (.some [43, 9, 2, 3, 41, 42]) (.seq (.region [⟨(.some 44), (.bin .lss (.t 43) (.t 42)), .none⟩])
 (.seq (.cond (.t 44)
  .skip
  (.exit 2))
 (.seq c18_11
 (.region [⟨(.some 55), (.bin .add (.t 43) (.c (.d (.int .i64 1)))), .none⟩,
   ⟨(.some 43), (.mov (.t 55)), .none⟩])))))))
abbrev c18_15 : PCode :=
 (.seq (.region [⟨(.some 56), (.mov (.t 9)), .none⟩,
   ⟨(.some 57), (.minmax .false (.t 56) [(.c (.d (.int .i64 1000)))]), .none⟩,
   ⟨(.some 6), (.mov (.t 57)), .none⟩])
 .ret)
abbrev c18_9 : PCode :=
 (.seq (.seq (.region [⟨(.some 40), (.faddr 3 (.t 4)), .none⟩,
   ⟨(.some 41), (.load .false 1 (.t 40) .false), .none⟩,
   ⟨(.some 42), (.len (.t 41)), .none⟩,
   ⟨(.some 43), (.mov (.c (.d (.int .i64 0)))), .none⟩])
 c18_10)
 c18_15)
abbrev c18_8 : PCode :=
 (.keep [2, 3, 4] (.seq (.region [⟨(.some 9), (.mov (.c (.d (.int .i64 1)))), .none⟩])
 c18_9))
abbrev c18_0 : PCode :=
 (.keep [2, 3, 4] (.seq (.seq (.region [⟨(.some 12), (.faddr 0 (.t 4)), .none⟩,
   ⟨(.some 13), (.load .false 1 (.t 12) .false), .none⟩,
   ⟨(.some 14), (.bin .eql (.t 13) (.c (.d (.int .u8 9)))), .none⟩])
 c18_1)
 c18_8))
def c18 : PFun := ⟨
 (.seq (.region [⟨(.some 3), (.box 6 (.t 0)), .none⟩,
   ⟨(.some 4), (.box 4 (.t 1)), .none⟩,
   ⟨(.some 6), (.mov (.c (.d (.int .i64 0)))), .none⟩])
 c18_0),
 3, 58, [(.tmp 6)]⟩

theorem e36 : entered Tryd.prog 36 = true := by kernel_rfl
theorem k36 : compFun Tryd.prog (fun _ => 0) 36 = some c36.er := by kernel_rfl
theorem e38 : entered Tryd.prog 38 = true := by kernel_rfl
theorem k38 : compFun Tryd.prog (fun _ => 0) 38 = some c38.er := by kernel_rfl
theorem e39 : entered Tryd.prog 39 = true := by kernel_rfl
theorem k39 : compFun Tryd.prog (fun _ => 0) 39 = some c39.er := by kernel_rfl
theorem e37 : entered Tryd.prog 37 = true := by kernel_rfl
theorem k37 : compFun Tryd.prog (fun _ => 0) 37 = some c37.er := by kernel_rfl
theorem e40 : entered Tryd.prog 40 = true := by kernel_rfl
theorem k40 : compFun Tryd.prog (fun _ => 0) 40 = some c40.er := by kernel_rfl
theorem e19 : entered Tryd.prog 19 = true := by kernel_rfl
theorem k19 : compFun Tryd.prog (fun _ => 0) 19 = some c19.er := by kernel_rfl
theorem e21 : entered Tryd.prog 21 = true := by kernel_rfl
theorem k21 : compFun Tryd.prog (fun _ => 0) 21 = some c21.er := by kernel_rfl
theorem e18 : entered Tryd.prog 18 = true := by kernel_rfl
theorem k18 : compFun Tryd.prog (fun _ => 0) 18 = some c18.er := by kernel_rfl


theorem C36 (g : FuncId) (e : Al → Al → Bool) (l k : List Al) (hl : l.length < 2 ^ 60) (hg : ∀ x ∈ l, ∀ y ∈ k, Pure (PCalls Tryd.prog GK) g [x.av, y.av] (b2 (e x y))) :
    Pure (PCalls Tryd.prog GK) 36 [.d (.sl (l.map Al.row)), .d (.sl (k.map Al.row)), .d (.fn g [] [])] (b2 (eqAll e l k)) := by
  intro st; refine pcalls_of k36 e36 (of_decide_eq_true rfl) ?_; dsimp only [c36]; refine pstartL ?_; intro t hL; generalize hQ : pfin _ _ = Q
  refine gor hL ?_; (repeat (clear hL; intro t hL; refine gor hL ?_))
  refine pcond_b rfl (fun h1 => ?_) (fun h1 => ?_)
  · have h1' : l.length ≠ k.length := by simp at h1; omega
    refine gor hL ?_; (repeat (clear hL; intro t hL; refine gor hL ?_))
    rw [← hQ]
    exact pfin_pure (by rw [eqAll_ne h1']; rfl) hL.le
  have h1' : l.length = k.length := by simp at h1; omega
  refine gor hL ?_; (repeat (clear hL; intro t hL; refine gor hL ?_))
  (apply prangeK hL (l.length) (by omega) (fun i => eqAll e l k = eqAll e (l.drop i) (k.drop i))); (· exact trimA); (· exact fun _ => rfl)
  · rfl
  · intro t hL hI
    rw [List.drop_length, h1', List.drop_length] at hI
    refine gor hL ?_; (repeat (clear hL; intro t hL; refine gor hL ?_))
    rw [← hQ]
    exact pfin_pure (by rw [hI]; rfl) hL.le
  · intro i hi t hL hI
    obtain ⟨x, hx, hxm⟩ := elem_at hi
    obtain ⟨y, hy, hym⟩ := elem_at (l := k) (k := i) (by omega)
    rw [eqAll_drop hx hy] at hI
    refine pblock ?_
    (refine gor hL ?_; (repeat (clear hL; intro t hL; refine gor hL ?_))); (with_reducible refine po_allocL hL rfl ?_); clear hL; intro p8 t hL
    refine gor hL ?_; (repeat (clear hL; intro t hL; refine gor hL ?_))
    (refine gor hL ?_; (repeat (clear hL; intro t hL; refine gor hL ?_))); (with_reducible refine po_allocL hL rfl ?_); clear hL; intro p9 t hL
    refine gor hL ?_; (repeat (clear hL; intro t hL; refine gor hL ?_))
    refine po_callv rfl rfl (hg x hxm y hym _) (fun _ _ h => False.elim h) ?_
    refine gor hL ?_; (repeat (clear hL; intro t hL; refine gor hL ?_))
    refine pcond_b rfl (fun h2 => ?_) (fun h2 => ?_)
    · have h2' : e x y = false := by simpa using h2
      refine gor hL ?_; (repeat (clear hL; intro t hL; refine gor hL ?_))
      rw [← hQ]
      exact pfin_pure (by rw [hI, h2']; rfl) hL.le
    have h2' : e x y = true := by simpa using h2
    refine gor hL ?_; (repeat (clear hL; intro t hL; refine gor hL ?_))
    refine ⟨hL.pk, ?_, tr2⟩
    rw [hI, h2']; rfl

theorem C39 (g : FuncId) (e : Pc → Pc → Bool) (l k : List Pc) (hl : l.length < 2 ^ 60) (hg : ∀ x ∈ l, ∀ y ∈ k, Pure (PCalls Tryd.prog GK) g [x.av, y.av] (b2 (e x y))) :
    Pure (PCalls Tryd.prog GK) 39 [.d (.sl (l.map Pc.row)), .d (.sl (k.map Pc.row)), .d (.fn g [] [])] (b2 (eqAll e l k)) := by
  intro st; refine pcalls_of k39 e39 (of_decide_eq_true rfl) ?_; dsimp only [c39]; refine pstartL ?_; intro t hL; generalize hQ : pfin _ _ = Q
  refine gor hL ?_; (repeat (clear hL; intro t hL; refine gor hL ?_))
  refine pcond_b rfl (fun h1 => ?_) (fun h1 => ?_)
  · have h1' : l.length ≠ k.length := by simp at h1; omega
    refine gor hL ?_; (repeat (clear hL; intro t hL; refine gor hL ?_))
    rw [← hQ]
    exact pfin_pure (by rw [eqAll_ne h1']; rfl) hL.le
  have h1' : l.length = k.length := by simp at h1; omega
  refine gor hL ?_; (repeat (clear hL; intro t hL; refine gor hL ?_))
  (apply prangeK hL (l.length) (by omega) (fun i => eqAll e l k = eqAll e (l.drop i) (k.drop i))); (· exact trimA); (· exact fun _ => rfl)
  · rfl
  · intro t hL hI
    rw [List.drop_length, h1', List.drop_length] at hI
    refine gor hL ?_; (repeat (clear hL; intro t hL; refine gor hL ?_))
    rw [← hQ]
    exact pfin_pure (by rw [hI]; rfl) hL.le
  · intro i hi t hL hI
    obtain ⟨x, hx, hxm⟩ := elem_at hi
    obtain ⟨y, hy, hym⟩ := elem_at (l := k) (k := i) (by omega)
    rw [eqAll_drop hx hy] at hI
    refine pblock ?_
    (refine gor hL ?_; (repeat (clear hL; intro t hL; refine gor hL ?_))); (with_reducible refine po_allocL hL rfl ?_); clear hL; intro p8 t hL
    refine gor hL ?_; (repeat (clear hL; intro t hL; refine gor hL ?_))
    (refine gor hL ?_; (repeat (clear hL; intro t hL; refine gor hL ?_))); (with_reducible refine po_allocL hL rfl ?_); clear hL; intro p9 t hL
    refine gor hL ?_; (repeat (clear hL; intro t hL; refine gor hL ?_))
    refine po_callv rfl rfl (hg x hxm y hym _) (fun _ _ h => False.elim h) ?_
    refine gor hL ?_; (repeat (clear hL; intro t hL; refine gor hL ?_))
    refine pcond_b rfl (fun h2 => ?_) (fun h2 => ?_)
    · have h2' : e x y = false := by simpa using h2
      refine gor hL ?_; (repeat (clear hL; intro t hL; refine gor hL ?_))
      rw [← hQ]
      exact pfin_pure (by rw [hI, h2']; rfl) hL.le
    have h2' : e x y = true := by simpa using h2
    refine gor hL ?_; (repeat (clear hL; intro t hL; refine gor hL ?_))
    refine ⟨hL.pk, ?_, tr2⟩
    rw [hI, h2']; rfl


theorem C38 (l k : List Fl) (hl : l.length < 2 ^ 60) : Pure (PCalls Tryd.prog GK) 38 [.d (.sl (l.map Fl.row)), .d (.sl (k.map Fl.row))] (b2 (eqAll Fl.same l k)) := by
  intro st; refine pcalls_of k38 e38 (of_decide_eq_true rfl) ?_; dsimp only [c38]; refine pstartL ?_; intro t hL; generalize hQ : pfin _ _ = Q
  refine gor hL ?_; (repeat (clear hL; intro t hL; refine gor hL ?_))
  refine pcond_b rfl (fun h1 => ?_) (fun h1 => ?_)
  · have h1' : l.length ≠ k.length := by simp at h1; omega
    refine gor hL ?_; (repeat (clear hL; intro t hL; refine gor hL ?_))
    rw [← hQ]
    exact pfin_pure (by rw [eqAll_ne h1']; rfl) hL.le
  have h1' : l.length = k.length := by simp at h1; omega
  refine gor hL ?_; (repeat (clear hL; intro t hL; refine gor hL ?_))
  (apply prangeK hL (l.length) (by omega) (fun i => eqAll Fl.same l k = eqAll Fl.same (l.drop i) (k.drop i))); (· exact trimA); (· exact fun _ => rfl)
  · rfl
  · intro t hL hI
    rw [List.drop_length, h1', List.drop_length] at hI
    refine gor hL ?_; (repeat (clear hL; intro t hL; refine gor hL ?_))
    rw [← hQ]
    exact pfin_pure (by rw [hI]; rfl) hL.le
  · intro i hi t hL hI
    obtain ⟨x, hx, hxm⟩ := elem_at hi
    obtain ⟨y, hy, hym⟩ := elem_at (l := k) (k := i) (by omega)
    rw [eqAll_drop hx hy] at hI
    refine pblock ?_
    refine gor hL ?_; (repeat (clear hL; intro t hL; refine gor hL ?_))
    have he : (x.name.toList == y.name.toList && x.number == y.number) = Fl.same x y := rfl
    refine gnm ?_; rw [he]
    refine pcond_b rfl (fun h2 => ?_) (fun h2 => ?_)
    · have h2' : Fl.same x y = false := by simpa using h2
      refine gor hL ?_; (repeat (clear hL; intro t hL; refine gor hL ?_))
      rw [← hQ]
      exact pfin_pure (by rw [hI, h2']; rfl) hL.le
    have h2' : Fl.same x y = true := by simpa using h2
    refine gor hL ?_; (repeat (clear hL; intro t hL; refine gor hL ?_))
    refine ⟨hL.pk, ?_, tr2⟩
    rw [hI, h2']; rfl

theorem C37 (x y : Al) (hx : x.ty.fit) : Pure (PCalls Tryd.prog GK) 37 [x.av, y.av] (b2 (x.same y)) := by
  intro st; refine pcalls_of k37 e37 (of_decide_eq_true rfl) ?_; dsimp only [c37]; refine pstartL ?_; intro t hL; generalize hQ : pfin _ _ = Q
  (refine gor hL ?_; (repeat (clear hL; intro t hL; refine gor hL ?_))); refine po_boxA hL ?_; clear hL; intro p1 t hL
  (refine gor hL ?_; (repeat (clear hL; intro t hL; refine gor hL ?_))); refine po_boxA hL ?_; clear hL; intro p2 t hL
  refine gor hL ?_; (repeat (clear hL; intro t hL; refine gor hL ?_))
  have he : (x.name.toList == y.name.toList) = seqB x.name y.name := rfl
  ((with_reducible apply po_g); (· exact gwt); (· (intro hw; refine does_call0 ?_ (C17 x.ty y.ty hx); exact gargs hw)))
  refine gor hL ?_; (repeat (clear hL; intro t hL; refine gor hL ?_))
  rw [← hQ]
  exact pfin_pure rfl hL.le
theorem C40 (x y : Pc) (hx : x.takes.fit ∧ x.answers.fit) : Pure (PCalls Tryd.prog GK) 40 [x.av, y.av] (b2 (x.same y)) := by
  intro st; refine pcalls_of k40 e40 (of_decide_eq_true rfl) ?_; dsimp only [c40]; refine pstartL ?_; intro t hL; generalize hQ : pfin _ _ = Q
  (refine gor hL ?_; (repeat (clear hL; intro t hL; refine gor hL ?_))); refine po_boxA hL ?_; clear hL; intro p1 t hL
  (refine gor hL ?_; (repeat (clear hL; intro t hL; refine gor hL ?_))); refine po_boxA hL ?_; clear hL; intro p2 t hL
  refine gor hL ?_; (repeat (clear hL; intro t hL; refine gor hL ?_))
  ((with_reducible apply po_g); (· exact gwt); (· (intro hw; refine does_call0 ?_ (C17 x.takes y.takes hx.1); exact gargs hw)))
  refine gor hL ?_; (repeat (clear hL; intro t hL; refine gor hL ?_))
  ((with_reducible apply po_g); (· exact gwt); (· (intro hw; refine does_call0 ?_ (C17 x.answers y.answers hx.2); exact gargs hw)))
  refine gor hL ?_; (repeat (clear hL; intro t hL; refine gor hL ?_))
  rw [← hQ]
  exact pfin_pure rfl hL.le
theorem C19 (x y : TB) (hx : x.fit) : Pure (PCalls Tryd.prog GK) 19 [x.av, y.av] (b2 (x.alike y)) := by
  have h1 := hx.types.1
  have h2 := hx.faults
  have h3 := hx.procs
  intro st; refine pcalls_of k19 e19 (of_decide_eq_true rfl) ?_; dsimp only [c19]; refine pstartL ?_; intro t hL; generalize hQ : pfin _ _ = Q
  (refine gor hL ?_; (repeat (clear hL; intro t hL; refine gor hL ?_))); refine po_boxA hL ?_; clear hL; intro p1 t hL
  (refine gor hL ?_; (repeat (clear hL; intro t hL; refine gor hL ?_))); refine po_boxA hL ?_; clear hL; intro p2 t hL
  refine gor hL ?_; (repeat (clear hL; intro t hL; refine gor hL ?_))
  ((with_reducible apply po_g); (· exact gwt); (· (intro hw; refine does_call0 ?_ (C36 37 Al.same x.types y.types (by omega) (fun a ha b _ => C37 a b (hx.types.2 a ha))); exact gargs hw)))
  refine gor hL ?_; (repeat (clear hL; intro t hL; refine gor hL ?_))
  ((with_reducible apply po_g); (· exact gwt); (· (intro hw; refine does_call0 ?_ (C38 x.faults y.faults (by omega)); exact gargs hw)))
  refine gor hL ?_; (repeat (clear hL; intro t hL; refine gor hL ?_))
  ((with_reducible apply po_g); (· exact gwt); (· (intro hw; refine does_call0 ?_ (C39 40 Pc.same x.procs y.procs (by omega) (fun a ha b _ => C40 a b (hx.pfit a ha))); exact gargs hw)))
  refine gor hL ?_; (repeat (clear hL; intro t hL; refine gor hL ?_))
  rw [← hQ]
  exact pfin_pure rfl hL.le
theorem C21 (x : TB) (hx : x.fit) (n : Int) : Pure (PCalls Tryd.prog GK) 21 [x.av, .d (.int .i64 n)] (.tup [((Find x.procs n).getD Pc.zero).av, b2 (Find x.procs n).isSome]) := by
  have h3 := hx.procs
  intro st; refine pcalls_of k21 e21 (of_decide_eq_true rfl) ?_; dsimp only [c21]; refine pstartL ?_; intro t hL; generalize hQ : pfin _ _ = Q
  (refine gor hL ?_; (repeat (clear hL; intro t hL; refine gor hL ?_))); refine po_boxA hL ?_; clear hL; intro p1 t hL
  (refine gor hL ?_; (repeat (clear hL; intro t hL; refine gor hL ?_))); (with_reducible refine po_allocL hL rfl ?_); clear hL; intro p2 t hL
  refine gor hL ?_; (repeat (clear hL; intro t hL; refine gor hL ?_))
  (apply prangeK hL (x.procs.length) (by omega) (fun i => Find x.procs n = Find (x.procs.drop i) n)); (· exact trimA); (· exact fun _ => rfl)
  · rfl
  · intro t hL hI
    rw [List.drop_length] at hI
    refine gor hL ?_; (repeat (clear hL; intro t hL; refine gor hL ?_))
    rw [← hQ]
    refine pwk2 hL ?_
    rw [hI]; rfl
  · intro i hi t hL hI
    obtain ⟨y, hy, hm⟩ := elem_at hi
    rw [drop_at hy] at hI
    simp only [Find, List.find?_cons] at hI
    refine pblock ?_
    (refine gor hL ?_; (repeat (clear hL; intro t hL; refine gor hL ?_))); (with_reducible refine po_allocL hL rfl ?_); clear hL; intro p7 t hL
    refine gor hL ?_; (repeat (clear hL; intro t hL; refine gor hL ?_))
    refine pcond_b rfl (fun h2 => ?_) (fun h2 => ?_)
    · rw [h2] at hI
      refine gor hL ?_; (repeat (clear hL; intro t hL; refine gor hL ?_))
      rw [← hQ]
      refine pwk2 hL ?_
      rw [Find, hI]; rfl
    · rw [h2] at hI
      refine gor hL ?_; (repeat (clear hL; intro t hL; refine gor hL ?_))
      refine ⟨hL.pk, ?_, tr2⟩
      exact hI

theorem C18 : ∀ (d : Nat) (types : List Al) (x : KT) (a0 a1 a2 a4 a5 : Dat) (many : Int), dok d types x → fitA types → x.fit → Pure (PCalls Tryd.prog GK) 18 [.agg [.d a0, .d a1, .d a2, .d (.sl (types.map Al.row)), .d a4, .d a5], x.av, .d (.int .i64 many)] (i64 (min (cnt d types x) 1000 : Nat)) := by
  intro d
  induction d with
  | zero => intro types x a0 a1 a2 a4 a5 many h; exact h.elim
  | succ d ih =>
  intro types x a0 a1 a2 a4 a5 many hd hT hx
  have hT1 := hT.1
  have hof : x.of.length < 2 ^ 40 ∧ ∀ o ∈ x.of, o.fit := by
    obtain ⟨k, m, n, o⟩ := x
    exact ⟨hx.2.1, KT.fits_mem hx.2.2⟩
  obtain ⟨hd1, hd2⟩ := hd
  rw [KT.av_eq]
  intro st; refine pcalls_of k18 e18 (of_decide_eq_true rfl) ?_; dsimp only [c18]; refine pstartL ?_; intro t hL; generalize hQ : pfin _ _ = Q
  (refine gor hL ?_; (repeat (clear hL; intro t hL; refine gor hL ?_))); refine po_boxA hL ?_; clear hL; intro p3 t hL
  (refine gor hL ?_; (repeat (clear hL; intro t hL; refine gor hL ?_))); refine po_boxA hL ?_; clear hL; intro p4 t hL
  refine gor hL ?_; (repeat (clear hL; intro t hL; refine gor hL ?_))
  refine pjoin (fun s u => s = put (put (put (fun _ => .undef) (some 4) (ptrAt p4)) (some 3) (ptrAt p3)) (some 2) (.d (.int .i64 many)) ∧ Lay st [.box p4 [.d (.int .u8 x.kind), .d (.int .i64 x.most), .d (.sl (x.names.map fun s => [.str s])), .d (.sl (x.of.map KT.row))], .box p3 [.d a0, .d a1, .d a2, .d (.sl (types.map Al.row)), .d a4, .d a5]] u ∧ cnt (d + 1) types x = 1 + (x.of.map (cnt d types)).sum) ?_ ?_
  · refine gor hL ?_; (repeat (clear hL; intro t hL; refine gor hL ?_))
    refine pcond_b rfl (fun h9 => ?_) (fun h9 => ?_)
    · have h9' : x.kind = 9 := by simpa using h9
      obtain ⟨hn1, hd3⟩ := hd1 h9'
      obtain ⟨nm, hnm⟩ : ∃ nm, x.names = [nm] := List.length_eq_one_iff.1 hn1
      have hn0 : x.names[0]? = some nm := by rw [hnm]; rfl
      refine gor hL ?_; (repeat (clear hL; intro t hL; refine gor hL ?_))
      (apply prangeK hL (types.length) (by omega) (fun i => ∀ j (h : j < types.length), j < i → seqB types[j].name nm = false)); (· exact trimA); (· exact fun _ => rfl)
      · intro j _ h; omega
      · intro t hL hI
        refine gor hL ?_; (repeat (clear hL; intro t hL; refine gor hL ?_))
        refine ⟨tr2, hL, ?_⟩
        have hno : types[refAt types x.names]? = none := by
          rw [List.getElem?_eq_none_iff]
          refine Nat.le_of_not_lt fun hlt => ?_
          unfold refAt at hlt
          rw [List.findIdx_lt_length] at hlt
          obtain ⟨a, ha, hp⟩ := hlt
          obtain ⟨j, hj, rfl⟩ := List.getElem_of_mem ha
          rw [hnm] at hp
          simp [hI j hj hj] at hp
        rw [cnt, if_pos h9', hno]
      · intro i hi t hL hI
        obtain ⟨y, hy, hm⟩ := elem_at hi
        have hyi : types[i] = y := (List.getElem?_eq_some_iff.1 hy).2
        refine pblock ?_
        (refine gor hL ?_; (repeat (clear hL; intro t hL; refine gor hL ?_))); (with_reducible refine po_allocL hL rfl ?_); clear hL; intro p8 t hL
        refine gor hL ?_; (repeat (clear hL; intro t hL; refine gor hL ?_))
        have he : (y.name.toList == nm.toList) = seqB y.name nm := rfl
        refine gnm ?_; rw [he]
        refine pcond_b rfl (fun h2 => ?_) (fun h2 => ?_)
        · refine gor hL ?_; (repeat (clear hL; intro t hL; refine gor hL ?_))
          refine po rfl (slc_rows (j := i) rfl rfl (by rw [List.length_map]; omega)) ?_
          rw [← List.map_take]
          refine gor hL ?_; (repeat (clear hL; intro t hL; refine gor hL ?_))
          have hcn : cnt (d + 1) types x = cnt d (types.take i) y.ty := by
            have hr : refAt types x.names = i := by
              unfold refAt
              rw [List.findIdx_eq hi]
              rw [hnm]
              refine ⟨by simp [hyi, h2], fun j hj => by simp [hI j (by omega) hj]⟩
            rw [cnt, if_pos h9', hr, hy]
          refine po_c0 (ih (types.take i) y.ty (.str (bs [])) (.int .i64 0) (.int .i64 0) (.sl []) (.sl []) many (hyi ▸ hd3 i hi) ⟨by rw [List.length_take]; omega, fun a ha => hT.2 a (List.mem_of_mem_take ha)⟩ (hT.2 y hm)) ?_
          refine gor hL ?_; (repeat (clear hL; intro t hL; refine gor hL ?_))
          rw [← hQ]
          exact pfin_pure (by rw [hcn]; rfl) hL.le
        · refine gor hL ?_; (repeat (clear hL; intro t hL; refine gor hL ?_))
          refine ⟨hL.pk, ?_, tr2⟩
          intro j hj hji
          by_cases e : j = i
          · subst e; rw [hyi]; exact h2
          · exact hI j hj (by omega)
    · have h9' : x.kind ≠ 9 := by simpa using h9
      refine gor hL ?_; (repeat (clear hL; intro t hL; refine gor hL ?_))
      exact ⟨tr2, hL, by rw [cnt, if_neg h9']⟩
  · rintro s t ⟨rfl, hL, hc⟩
    rw [hc] at hQ
    clear hc
    refine gor hL ?_; (repeat (clear hL; intro t hL; refine gor hL ?_))
    (apply prangeA (x.of.length) (by omega) (fun a z => put z (some 9) (i64 a)) (fun k a t => Lay st [.box p4 [.d (.int .u8 x.kind), .d (.int .i64 x.most), .d (.sl (x.names.map fun s => [.str s])), .d (.sl (x.of.map KT.row))], .box p3 [.d a0, .d a1, .d a2, .d (.sl (types.map Al.row)), .d a4, .d a5]] t ∧ 1 ≤ a ∧ a ≤ 2000 ∧ min a 1000 = ((min (1 + ((x.of.take k).map (cnt d types)).sum) 1000 : Nat) : Int)) (1)); (· exact trimA); (· exact fun _ _ => rfl)
    · exact ⟨hL, by decide, by decide, rfl⟩
    · rintro a t ⟨hL, ha1, ha2, ha3⟩
      rw [List.take_length] at ha3
      refine gor hL ?_; (repeat (clear hL; intro t hL; refine gor hL ?_))
      rw [← hQ]
      refine pfin_pure ?_ hL.le
      rw [← ha3]
      show some (AV.d (Dat.int .i64 (if (1000 : Int) < a then 1000 else a))) = some (i64 (min a 1000))
      rw [show (if (1000 : Int) < a then 1000 else a) = min a 1000 by omega]
      rfl
    · rintro k hk a t ⟨hL, ha1, ha2, ha3⟩
      obtain ⟨y, hy, hm⟩ := elem_at hk
      have hsn : ((x.of.take (k + 1)).map (cnt d types)).sum = ((x.of.take k).map (cnt d types)).sum + cnt d types y := by
        rw [map_take_snoc _ hy, List.sum_append]; simp
      refine pblock ?_
      (refine gor hL ?_; (repeat (clear hL; intro t hL; refine gor hL ?_))); (with_reducible refine po_allocL hL rfl ?_); clear hL; intro p11 t hL
      refine gor hL ?_; (repeat (clear hL; intro t hL; refine gor hL ?_))
      refine pcond_b rfl (fun h3 => ?_) (fun h3 => ?_)
      · have h3' : a < 1000 := by simpa using h3
        refine gor hL ?_; (repeat (clear hL; intro t hL; refine gor hL ?_))
        refine po_c0 (ih types y a0 a1 a2 a4 a5 many (hd2 y hm) hT (hof.2 y hm)) ?_
        refine gor hL ?_; (repeat (clear hL; intro t hL; refine gor hL ?_))
        refine gnm ?_; rw [IntWalk.i64_in _ (by omega)]
        refine gor hL ?_; (repeat (clear hL; intro t hL; refine gor hL ?_))
        refine ⟨a + (min (cnt d types y) 1000 : Nat), ⟨hL.pk, by omega, by omega, ?_⟩, tr2⟩
        rw [hsn]
        omega
      · have h3' : ¬ a < 1000 := by simpa using h3
        refine gor hL ?_; (repeat (clear hL; intro t hL; refine gor hL ?_))
        refine ⟨a, ⟨hL.pk, ha1, ha2, ?_⟩, tr2⟩
        rw [hsn]
        omega
end Go.Pv
