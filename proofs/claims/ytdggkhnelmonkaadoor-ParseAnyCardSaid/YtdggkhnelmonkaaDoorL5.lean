/- Functions of the program, by value. No condition. -/
import Derived.Test.YtdggkhnelmonkaaDoorL4
import Derived.Test.YtdggkhnelmonkaaDoorD6
namespace Go.Pv
open Go.Proofs
set_option maxRecDepth 100000
set_option maxHeartbeats 8000000

/-- slices.EqualFunc[[]prompter/kind.Alias,[]prompter/kind.Alias,prompter/kind.Alias,prompter/kind.Alias] -/
abbrev c42_2 : PCode :=
 (.seq (.region [⟨(.some 6), (.mov (.c (.d (.bool .false)))), .none⟩])
 .ret)
abbrev c42_1 : PCode :=
 (.cond (.t 14)
  c42_2
  .skip)
abbrev c42_9 : PCode :=
 (.seq (.region [⟨(.some 6), (.mov (.c (.d (.bool .false)))), .none⟩])
 .ret)
abbrev c42_8 : PCode :=
 (.cond (.t 30)
  c42_9
  .skip)
abbrev c42_7 : PCode :=
 (.keep [1, 2, 8, 9, 15, 16, 17] (.seq (.region [⟨(.some 26), (.mov (.t 2)), .none⟩,
   ⟨(.some 27), (.load .true 5 (.t 8) .false), .none⟩,
   ⟨(.some 28), (.load .true 5 (.t 9) .false), .none⟩,
   ⟨(.some 29), (.callv0 (.t 26) [(.t 27), (.t 28)]), .none⟩,
   ⟨(.some 30), (.not (.t 29)), .none⟩])
 c42_8))
abbrev c42_6 : PCode :=
 (.keep [1, 2, 7, 8, 15, 16, 17] (.seq (.region [⟨(.some 22), (.mov (.t 1)), .none⟩,
   ⟨(.some 23), (.mov (.t 7)), .none⟩,
   ⟨(.some 24), (.iaddr 5 (.t 22) (.t 23)), .none⟩,
   ⟨(.some 25), (.load .true 5 (.t 24) .false), .none⟩,
   ⟨(.some 9), (.alloc [(.d (.str (bs []))), (.d (.int .u8 0)), (.d (.int .i64 0)), (.full []), (.full [])]), .none⟩,
   ⟨.none, (.store 5 (.t 9) (.t 25)), .none⟩])
 c42_7))
abbrev c42_5 : PCode :=
 (.block 1 (.seq (.region [⟨(.some 19), (.mov (.t 17)), .none⟩,
   ⟨(.some 20), (.iaddr 5 (.t 15) (.t 17)), .none⟩,
   ⟨(.some 21), (.load .true 5 (.t 20) .false), .none⟩,
   ⟨(.some 8), (.alloc [(.d (.str (bs []))), (.d (.int .u8 0)), (.d (.int .i64 0)), (.full []), (.full [])]), .none⟩,
   ⟨(.some 7), (.mov (.t 19)), .none⟩,
   ⟨.none, (.store 5 (.t 8) (.t 21)), .none⟩])
 c42_6))
abbrev c42_4 : PCode :=
 (.keep [1, 2, 15, 16, 17] (.block 0 (.loop (.some [17, 1, 2, 15, 16]) (.seq (.region [⟨(.some 18), (.bin .lss (.t 17) (.t 16)), .none⟩])
 (.seq (.cond (.t 18)
  .skip
  (.exit 0))
 (.seq c42_5
 (.region [⟨(.some 31), (.bin .add (.t 17) (.c (.d (.int .i64 1)))), .none⟩,
   ⟨(.some 17), (.mov (.t 31)), .none⟩])))))))
abbrev c42_10 : PCode :=
 (.seq (.region [⟨(.some 6), (.mov (.c (.d (.bool .true)))), .none⟩])
 .ret)
abbrev c42_3 : PCode :=
 (.keep [0, 1, 2] (.seq (.seq (.region [⟨(.some 15), (.mov (.t 0)), .none⟩,
   ⟨(.some 16), (.len (.t 15)), .none⟩,
   ⟨(.some 17), (.mov (.c (.d (.int .i64 0)))), .none⟩])
 c42_4)
 c42_10))
abbrev c42_0 : PCode :=
 (.seq (.seq (.region [⟨(.some 10), (.mov (.t 0)), .none⟩,
   ⟨(.some 11), (.len (.t 10)), .none⟩,
   ⟨(.some 12), (.mov (.t 1)), .none⟩,
   ⟨(.some 13), (.len (.t 12)), .none⟩,
   ⟨(.some 14), (.bin .neq (.t 11) (.t 13)), .none⟩])
 c42_1)
 c42_3)
def c42 : PFun := ⟨
 (.seq (.region [⟨(.some 6), (.mov (.c (.d (.bool .false)))), .none⟩])
 c42_0),
 3, 32, [(.tmp 6)]⟩

/-- slices.Equal[[]prompter/kind.Fault,prompter/kind.Fault] -/
abbrev c44_2 : PCode :=
 (.seq (.region [⟨(.some 4), (.mov (.c (.d (.bool .false)))), .none⟩])
 .ret)
abbrev c44_1 : PCode :=
 (.cond (.t 10)
  c44_2
  .skip)
abbrev c44_8 : PCode :=
 (.seq (.region [⟨(.some 4), (.mov (.c (.d (.bool .false)))), .none⟩])
 .ret)
abbrev c44_7 : PCode :=
 (.cond (.t 24)
  c44_8
  .skip)
abbrev c44_6 : PCode :=
 (.seq (.region [⟨(.some 16), (.mov (.t 0)), .none⟩,
   ⟨(.some 17), (.mov (.t 5)), .none⟩,
   ⟨(.some 18), (.iaddr 2 (.t 16) (.t 17)), .none⟩,
   ⟨(.some 19), (.load .true 2 (.t 18) .false), .none⟩,
   ⟨(.some 20), (.mov (.t 1)), .none⟩,
   ⟨(.some 21), (.mov (.t 5)), .none⟩,
   ⟨(.some 22), (.iaddr 2 (.t 20) (.t 21)), .none⟩,
   ⟨(.some 23), (.load .true 2 (.t 22) .false), .none⟩,
   ⟨(.some 24), (.eqAgg .true [2, 1] (.t 19) (.t 23)), .none⟩])
 c44_7)
abbrev c44_5 : PCode :=
 (.block 1 (.seq (.region [⟨(.some 15), (.mov (.t 13)), .none⟩,
   ⟨(.some 5), (.mov (.t 15)), .none⟩])
 c44_6))
abbrev c44_4 : PCode :=
 (.keep [0, 1, 12, 13] (.block 0 (.loop (.some [13, 0, 1, 12]) (.seq (.region [⟨(.some 14), (.bin .lss (.t 13) (.t 12)), .none⟩])
 (.seq (.cond (.t 14)
  .skip
  (.exit 0))
 (.seq c44_5
 (.region [⟨(.some 25), (.bin .add (.t 13) (.c (.d (.int .i64 1)))), .none⟩,
   ⟨(.some 13), (.mov (.t 25)), .none⟩])))))))
abbrev c44_9 : PCode :=
 (.seq (.region [⟨(.some 4), (.mov (.c (.d (.bool .true)))), .none⟩])
 .ret)
abbrev c44_3 : PCode :=
 (.keep [0, 1] (.seq (.seq (.region [⟨(.some 11), (.mov (.t 0)), .none⟩,
   ⟨(.some 12), (.len (.t 11)), .none⟩,
   ⟨(.some 13), (.mov (.c (.d (.int .i64 0)))), .none⟩])
 c44_4)
 c44_9))
abbrev c44_0 : PCode :=
 (.seq (.seq (.region [⟨(.some 6), (.mov (.t 0)), .none⟩,
   ⟨(.some 7), (.len (.t 6)), .none⟩,
   ⟨(.some 8), (.mov (.t 1)), .none⟩,
   ⟨(.some 9), (.len (.t 8)), .none⟩,
   ⟨(.some 10), (.bin .neq (.t 7) (.t 9)), .none⟩])
 c44_1)
 c44_3)
def c44 : PFun := ⟨
 (.seq (.region [⟨(.some 4), (.mov (.c (.d (.bool .false)))), .none⟩])
 c44_0),
 2, 26, [(.tmp 4)]⟩

/-- slices.EqualFunc[[]prompter/kind.Proc,[]prompter/kind.Proc,prompter/kind.Proc,prompter/kind.Proc] -/
abbrev c45_2 : PCode :=
 (.seq (.region [⟨(.some 6), (.mov (.c (.d (.bool .false)))), .none⟩])
 .ret)
abbrev c45_1 : PCode :=
 (.cond (.t 14)
  c45_2
  .skip)
abbrev c45_9 : PCode :=
 (.seq (.region [⟨(.some 6), (.mov (.c (.d (.bool .false)))), .none⟩])
 .ret)
abbrev c45_8 : PCode :=
 (.cond (.t 30)
  c45_9
  .skip)
abbrev c45_7 : PCode :=
 (.keep [1, 2, 8, 9, 15, 16, 17] (.seq (.region [⟨(.some 26), (.mov (.t 2)), .none⟩,
   ⟨(.some 27), (.load .true 12 (.t 8) .false), .none⟩,
   ⟨(.some 28), (.load .true 12 (.t 9) .false), .none⟩,
   ⟨(.some 29), (.callv0 (.t 26) [(.t 27), (.t 28)]), .none⟩,
   ⟨(.some 30), (.not (.t 29)), .none⟩])
 c45_8))
abbrev c45_6 : PCode :=
 (.keep [1, 2, 7, 8, 15, 16, 17] (.seq (.region [⟨(.some 22), (.mov (.t 1)), .none⟩,
   ⟨(.some 23), (.mov (.t 7)), .none⟩,
   ⟨(.some 24), (.iaddr 12 (.t 22) (.t 23)), .none⟩,
   ⟨(.some 25), (.load .true 12 (.t 24) .false), .none⟩,
   ⟨(.some 9), (.alloc [(.d (.str (bs []))), (.d (.int .i64 0)), (.d (.int .u8 0)), (.d (.int .i64 0)), (.full []), (.full []), (.d (.int .u8 0)), (.d (.int .i64 0)), (.full []), (.full []), (.d (.int .u8 0)), (.d (.int .i64 0))]), .none⟩,
   ⟨.none, (.store 12 (.t 9) (.t 25)), .none⟩])
 c45_7))
abbrev c45_5 : PCode :=
 (.block 1 (.seq (.region [⟨(.some 19), (.mov (.t 17)), .none⟩,
   ⟨(.some 20), (.iaddr 12 (.t 15) (.t 17)), .none⟩,
   ⟨(.some 21), (.load .true 12 (.t 20) .false), .none⟩,
   ⟨(.some 8), (.alloc [(.d (.str (bs []))), (.d (.int .i64 0)), (.d (.int .u8 0)), (.d (.int .i64 0)), (.full []), (.full []), (.d (.int .u8 0)), (.d (.int .i64 0)), (.full []), (.full []), (.d (.int .u8 0)), (.d (.int .i64 0))]), .none⟩,
   ⟨(.some 7), (.mov (.t 19)), .none⟩,
   ⟨.none, (.store 12 (.t 8) (.t 21)), .none⟩])
 c45_6))
abbrev c45_4 : PCode :=
 (.keep [1, 2, 15, 16, 17] (.block 0 (.loop (.some [17, 1, 2, 15, 16]) (.seq (.region [⟨(.some 18), (.bin .lss (.t 17) (.t 16)), .none⟩])
 (.seq (.cond (.t 18)
  .skip
  (.exit 0))
 (.seq c45_5
 (.region [⟨(.some 31), (.bin .add (.t 17) (.c (.d (.int .i64 1)))), .none⟩,
   ⟨(.some 17), (.mov (.t 31)), .none⟩])))))))
abbrev c45_10 : PCode :=
 (.seq (.region [⟨(.some 6), (.mov (.c (.d (.bool .true)))), .none⟩])
 .ret)
abbrev c45_3 : PCode :=
 (.keep [0, 1, 2] (.seq (.seq (.region [⟨(.some 15), (.mov (.t 0)), .none⟩,
   ⟨(.some 16), (.len (.t 15)), .none⟩,
   ⟨(.some 17), (.mov (.c (.d (.int .i64 0)))), .none⟩])
 c45_4)
 c45_10))
abbrev c45_0 : PCode :=
 (.seq (.seq (.region [⟨(.some 10), (.mov (.t 0)), .none⟩,
   ⟨(.some 11), (.len (.t 10)), .none⟩,
   ⟨(.some 12), (.mov (.t 1)), .none⟩,
   ⟨(.some 13), (.len (.t 12)), .none⟩,
   ⟨(.some 14), (.bin .neq (.t 11) (.t 13)), .none⟩])
 c45_1)
 c45_3)
def c45 : PFun := ⟨
 (.seq (.region [⟨(.some 6), (.mov (.c (.d (.bool .false)))), .none⟩])
 c45_0),
 3, 32, [(.tmp 6)]⟩

/-- prompter/kind.Alike$1 -/
abbrev c43_0 : PCode :=
 (.keep [2, 3] (.seq (.region [⟨(.some 5), (.faddr 0 (.t 2)), .none⟩,
   ⟨(.some 6), (.load .false 1 (.t 5) .false), .none⟩,
   ⟨(.some 7), (.faddr 0 (.t 3)), .none⟩,
   ⟨(.some 8), (.load .false 1 (.t 7) .false), .none⟩,
   ⟨(.some 9), (.bin .eql (.t 6) (.t 8)), .none⟩,
   ⟨(.some 10), (.mov (.t 9)), .none⟩,
   ⟨(.some 11), (.faddr 1 (.t 2)), (.some (10, .true))⟩,
   ⟨(.some 12), (.load .true 4 (.t 11) .false), (.some (10, .true))⟩,
   ⟨(.some 13), (.faddr 1 (.t 3)), (.some (10, .true))⟩,
   ⟨(.some 14), (.load .true 4 (.t 13) .false), (.some (10, .true))⟩,
   ⟨(.some 15), (.call0 30 [(.t 12), (.t 14)]), (.some (10, .true))⟩,
   ⟨(.some 16), (.pick (.t 10) (.t 15) (.c (.d (.bool .false)))), .none⟩,
   ⟨(.some 4), (.mov (.t 16)), .none⟩])
 .ret))
def c43 : PFun := ⟨
 (.seq (.region [⟨(.some 2), (.box 5 (.t 0)), .none⟩,
   ⟨(.some 3), (.box 5 (.t 1)), .none⟩,
   ⟨(.some 4), (.mov (.c (.d (.bool .false)))), .none⟩])
 c43_0),
 2, 17, [(.tmp 4)]⟩

/-- (prompter/kind.Proc).same -/
abbrev c46_0 : PCode :=
 (.keep [2, 3] (.seq (.region [⟨(.some 5), (.faddr 0 (.t 2)), .none⟩,
   ⟨(.some 6), (.load .false 1 (.t 5) .false), .none⟩,
   ⟨(.some 7), (.faddr 0 (.t 3)), .none⟩,
   ⟨(.some 8), (.load .false 1 (.t 7) .false), .none⟩,
   ⟨(.some 9), (.bin .eql (.t 6) (.t 8)), .none⟩,
   ⟨(.some 10), (.mov (.t 9)), .none⟩,
   ⟨(.some 11), (.faddr 1 (.t 2)), (.some (10, .true))⟩,
   ⟨(.some 12), (.load .false 1 (.t 11) .false), (.some (10, .true))⟩,
   ⟨(.some 13), (.faddr 1 (.t 3)), (.some (10, .true))⟩,
   ⟨(.some 14), (.load .false 1 (.t 13) .false), (.some (10, .true))⟩,
   ⟨(.some 15), (.bin .eql (.t 12) (.t 14)), (.some (10, .true))⟩,
   ⟨(.some 16), (.pick (.t 10) (.t 15) (.c (.d (.bool .false)))), .none⟩,
   ⟨(.some 17), (.mov (.t 16)), .none⟩,
   ⟨(.some 18), (.faddr 2 (.t 2)), (.some (17, .true))⟩,
   ⟨(.some 19), (.load .true 4 (.t 18) .false), (.some (17, .true))⟩,
   ⟨(.some 20), (.faddr 2 (.t 3)), (.some (17, .true))⟩,
   ⟨(.some 21), (.load .true 4 (.t 20) .false), (.some (17, .true))⟩,
   ⟨(.some 22), (.call0 30 [(.t 19), (.t 21)]), (.some (17, .true))⟩,
   ⟨(.some 23), (.pick (.t 17) (.t 22) (.c (.d (.bool .false)))), .none⟩,
   ⟨(.some 24), (.mov (.t 23)), .none⟩,
   ⟨(.some 25), (.faddr 6 (.t 2)), (.some (24, .true))⟩,
   ⟨(.some 26), (.load .true 4 (.t 25) .false), (.some (24, .true))⟩,
   ⟨(.some 27), (.faddr 6 (.t 3)), (.some (24, .true))⟩,
   ⟨(.some 28), (.load .true 4 (.t 27) .false), (.some (24, .true))⟩,
   ⟨(.some 29), (.call0 30 [(.t 26), (.t 28)]), (.some (24, .true))⟩,
   ⟨(.some 30), (.pick (.t 24) (.t 29) (.c (.d (.bool .false)))), .none⟩,
   ⟨(.some 31), (.mov (.t 30)), .none⟩,
   ⟨(.some 32), (.faddr 10 (.t 2)), (.some (31, .true))⟩,
   ⟨(.some 33), (.load .false 1 (.t 32) .false), (.some (31, .true))⟩,
   ⟨(.some 34), (.faddr 10 (.t 3)), (.some (31, .true))⟩,
   ⟨(.some 35), (.load .false 1 (.t 34) .false), (.some (31, .true))⟩,
   ⟨(.some 36), (.bin .eql (.t 33) (.t 35)), (.some (31, .true))⟩,
   ⟨(.some 37), (.pick (.t 31) (.t 36) (.c (.d (.bool .false)))), .none⟩,
   ⟨(.some 38), (.mov (.t 37)), .none⟩,
   ⟨(.some 39), (.faddr 11 (.t 2)), (.some (38, .true))⟩,
   ⟨(.some 40), (.load .false 1 (.t 39) .false), (.some (38, .true))⟩,
   ⟨(.some 41), (.faddr 11 (.t 3)), (.some (38, .true))⟩,
   ⟨(.some 42), (.load .false 1 (.t 41) .false), (.some (38, .true))⟩,
   ⟨(.some 43), (.bin .eql (.t 40) (.t 42)), (.some (38, .true))⟩,
   ⟨(.some 44), (.pick (.t 38) (.t 43) (.c (.d (.bool .false)))), .none⟩,
   ⟨(.some 4), (.mov (.t 44)), .none⟩])
 .ret))
def c46 : PFun := ⟨
 (.seq (.region [⟨(.some 2), (.box 12 (.t 0)), .none⟩,
   ⟨(.some 3), (.box 12 (.t 1)), .none⟩,
   ⟨(.some 4), (.mov (.c (.d (.bool .false)))), .none⟩])
 c46_0),
 2, 45, [(.tmp 4)]⟩

/-- prompter/kind.Alike -/
abbrev c20_0 : PCode :=
 (.keep [2, 3] (.seq (.region [⟨(.some 5), (.faddr 0 (.t 2)), .none⟩,
   ⟨(.some 6), (.load .false 1 (.t 5) .false), .none⟩,
   ⟨(.some 7), (.faddr 0 (.t 3)), .none⟩,
   ⟨(.some 8), (.load .false 1 (.t 7) .false), .none⟩,
   ⟨(.some 9), (.bin .eql (.t 6) (.t 8)), .none⟩,
   ⟨(.some 10), (.mov (.t 9)), .none⟩,
   ⟨(.some 11), (.faddr 1 (.t 2)), (.some (10, .true))⟩,
   ⟨(.some 12), (.load .false 1 (.t 11) .false), (.some (10, .true))⟩,
   ⟨(.some 13), (.faddr 1 (.t 3)), (.some (10, .true))⟩,
   ⟨(.some 14), (.load .false 1 (.t 13) .false), (.some (10, .true))⟩,
   ⟨(.some 15), (.bin .eql (.t 12) (.t 14)), (.some (10, .true))⟩,
   ⟨(.some 16), (.pick (.t 10) (.t 15) (.c (.d (.bool .false)))), .none⟩,
   ⟨(.some 17), (.mov (.t 16)), .none⟩,
   ⟨(.some 18), (.faddr 2 (.t 2)), (.some (17, .true))⟩,
   ⟨(.some 19), (.load .false 1 (.t 18) .false), (.some (17, .true))⟩,
   ⟨(.some 20), (.faddr 2 (.t 3)), (.some (17, .true))⟩,
   ⟨(.some 21), (.load .false 1 (.t 20) .false), (.some (17, .true))⟩,
   ⟨(.some 22), (.bin .eql (.t 19) (.t 21)), (.some (17, .true))⟩,
   ⟨(.some 23), (.pick (.t 17) (.t 22) (.c (.d (.bool .false)))), .none⟩,
   ⟨(.some 24), (.mov (.t 23)), .none⟩,
   ⟨(.some 25), (.faddr 3 (.t 2)), (.some (24, .true))⟩,
   ⟨(.some 26), (.load .false 1 (.t 25) .false), (.some (24, .true))⟩,
   ⟨(.some 27), (.faddr 3 (.t 3)), (.some (24, .true))⟩,
   ⟨(.some 28), (.load .false 1 (.t 27) .false), (.some (24, .true))⟩,
   ⟨(.some 29), (.call0 42 [(.t 26), (.t 28), (.c (.d (.fn 43 [] [])))]), (.some (24, .true))⟩,
   ⟨(.some 30), (.pick (.t 24) (.t 29) (.c (.d (.bool .false)))), .none⟩,
   ⟨(.some 31), (.mov (.t 30)), .none⟩,
   ⟨(.some 32), (.faddr 4 (.t 2)), (.some (31, .true))⟩,
   ⟨(.some 33), (.load .false 1 (.t 32) .false), (.some (31, .true))⟩,
   ⟨(.some 34), (.faddr 4 (.t 3)), (.some (31, .true))⟩,
   ⟨(.some 35), (.load .false 1 (.t 34) .false), (.some (31, .true))⟩,
   ⟨(.some 36), (.call0 44 [(.t 33), (.t 35)]), (.some (31, .true))⟩,
   ⟨(.some 37), (.pick (.t 31) (.t 36) (.c (.d (.bool .false)))), .none⟩,
   ⟨(.some 38), (.mov (.t 37)), .none⟩,
   ⟨(.some 39), (.faddr 5 (.t 2)), (.some (38, .true))⟩,
   ⟨(.some 40), (.load .false 1 (.t 39) .false), (.some (38, .true))⟩,
   ⟨(.some 41), (.faddr 5 (.t 3)), (.some (38, .true))⟩,
   ⟨(.some 42), (.load .false 1 (.t 41) .false), (.some (38, .true))⟩,
   ⟨(.some 43), (.call0 45 [(.t 40), (.t 42), (.c (.d (.fn 46 [] [])))]), (.some (38, .true))⟩,
   ⟨(.some 44), (.pick (.t 38) (.t 43) (.c (.d (.bool .false)))), .none⟩,
   ⟨(.some 4), (.mov (.t 44)), .none⟩])
 .ret))
def c20 : PFun := ⟨
 (.seq (.region [⟨(.some 2), (.box 6 (.t 0)), .none⟩,
   ⟨(.some 3), (.box 6 (.t 1)), .none⟩,
   ⟨(.some 4), (.mov (.c (.d (.bool .false)))), .none⟩])
 c20_0),
 2, 45, [(.tmp 4)]⟩

theorem e42 : entered Tryd.prog 42 = true := by kernel_rfl
theorem k42 : compFun Tryd.prog (fun _ => 0) 42 = some c42.er := by kernel_rfl
theorem e44 : entered Tryd.prog 44 = true := by kernel_rfl
theorem k44 : compFun Tryd.prog (fun _ => 0) 44 = some c44.er := by kernel_rfl
theorem e45 : entered Tryd.prog 45 = true := by kernel_rfl
theorem k45 : compFun Tryd.prog (fun _ => 0) 45 = some c45.er := by kernel_rfl
theorem e43 : entered Tryd.prog 43 = true := by kernel_rfl
theorem k43 : compFun Tryd.prog (fun _ => 0) 43 = some c43.er := by kernel_rfl
theorem e46 : entered Tryd.prog 46 = true := by kernel_rfl
theorem k46 : compFun Tryd.prog (fun _ => 0) 46 = some c46.er := by kernel_rfl
theorem e20 : entered Tryd.prog 20 = true := by kernel_rfl
theorem k20 : compFun Tryd.prog (fun _ => 0) 20 = some c20.er := by kernel_rfl


theorem C42 (g : FuncId) (e : Al → Al → Bool) (l k : List Al) (hl : l.length < 2 ^ 60) (hg : ∀ x ∈ l, ∀ y ∈ k, Pure (PCalls Tryd.prog GK) g [x.av, y.av] (b2 (e x y))) :
    Pure (PCalls Tryd.prog GK) 42 [.d (.sl (l.map Al.row)), .d (.sl (k.map Al.row)), .d (.fn g [] [])] (b2 (eqAll e l k)) := by
  intro st; refine pcalls_of k42 e42 (of_decide_eq_true rfl) ?_; dsimp only [c42]; refine pstartL ?_; intro t hL; generalize hQ : pfin _ _ = Q
  refine gor hL ?_; (repeat (clear hL; intro t hL; refine gor hL ?_))
  refine pcond_b rfl (fun h1 => ?_) (fun h1 => ?_)
  · have h1' : l.length ≠ k.length := by simp at h1; omega
    refine gor hL ?_; (repeat (clear hL; intro t hL; refine gor hL ?_))
    rw [← hQ]
    exact pfin_pure (by rw [eqAll_ne h1']; rfl) hL.le
  have h1' : l.length = k.length := by simp at h1; omega
  refine gor hL ?_; (repeat (clear hL; intro t hL; refine gor hL ?_))
  (apply prangeK hL (l.length) (by omega) (fun i => eqAll e l k = eqAll e (l.drop i) (k.drop i))); (· exact trimA); (· exact fun _ => rfl)
  · rfl
  · intro t hL hI
    rw [List.drop_length, h1', List.drop_length] at hI
    refine gor hL ?_; (repeat (clear hL; intro t hL; refine gor hL ?_))
    rw [← hQ]
    exact pfin_pure (by rw [hI]; rfl) hL.le
  · intro i hi t hL hI
    obtain ⟨x, hx, hxm⟩ := elem_at hi
    obtain ⟨y, hy, hym⟩ := elem_at (l := k) (k := i) (by omega)
    rw [eqAll_drop hx hy] at hI
    refine pblock ?_
    (refine gor hL ?_; (repeat (clear hL; intro t hL; refine gor hL ?_))); (with_reducible refine po_allocL hL rfl ?_); clear hL; intro p8 t hL
    refine gor hL ?_; (repeat (clear hL; intro t hL; refine gor hL ?_))
    (refine gor hL ?_; (repeat (clear hL; intro t hL; refine gor hL ?_))); (with_reducible refine po_allocL hL rfl ?_); clear hL; intro p9 t hL
    refine gor hL ?_; (repeat (clear hL; intro t hL; refine gor hL ?_))
    refine po_callv rfl rfl (hg x hxm y hym _) (fun _ _ h => False.elim h) ?_
    refine gor hL ?_; (repeat (clear hL; intro t hL; refine gor hL ?_))
    refine pcond_b rfl (fun h2 => ?_) (fun h2 => ?_)
    · have h2' : e x y = false := by simpa using h2
      refine gor hL ?_; (repeat (clear hL; intro t hL; refine gor hL ?_))
      rw [← hQ]
      exact pfin_pure (by rw [hI, h2']; rfl) hL.le
    have h2' : e x y = true := by simpa using h2
    refine gor hL ?_; (repeat (clear hL; intro t hL; refine gor hL ?_))
    refine ⟨hL.pk, ?_, tr2⟩
    rw [hI, h2']; rfl

theorem C45 (g : FuncId) (e : Pc → Pc → Bool) (l k : List Pc) (hl : l.length < 2 ^ 60) (hg : ∀ x ∈ l, ∀ y ∈ k, Pure (PCalls Tryd.prog GK) g [x.av, y.av] (b2 (e x y))) :
    Pure (PCalls Tryd.prog GK) 45 [.d (.sl (l.map Pc.row)), .d (.sl (k.map Pc.row)), .d (.fn g [] [])] (b2 (eqAll e l k)) := by
  intro st; refine pcalls_of k45 e45 (of_decide_eq_true rfl) ?_; dsimp only [c45]; refine pstartL ?_; intro t hL; generalize hQ : pfin _ _ = Q
  refine gor hL ?_; (repeat (clear hL; intro t hL; refine gor hL ?_))
  refine pcond_b rfl (fun h1 => ?_) (fun h1 => ?_)
  · have h1' : l.length ≠ k.length := by simp at h1; omega
    refine gor hL ?_; (repeat (clear hL; intro t hL; refine gor hL ?_))
    rw [← hQ]
    exact pfin_pure (by rw [eqAll_ne h1']; rfl) hL.le
  have h1' : l.length = k.length := by simp at h1; omega
  refine gor hL ?_; (repeat (clear hL; intro t hL; refine gor hL ?_))
  (apply prangeK hL (l.length) (by omega) (fun i => eqAll e l k = eqAll e (l.drop i) (k.drop i))); (· exact trimA); (· exact fun _ => rfl)
  · rfl
  · intro t hL hI
    rw [List.drop_length, h1', List.drop_length] at hI
    refine gor hL ?_; (repeat (clear hL; intro t hL; refine gor hL ?_))
    rw [← hQ]
    exact pfin_pure (by rw [hI]; rfl) hL.le
  · intro i hi t hL hI
    obtain ⟨x, hx, hxm⟩ := elem_at hi
    obtain ⟨y, hy, hym⟩ := elem_at (l := k) (k := i) (by omega)
    rw [eqAll_drop hx hy] at hI
    refine pblock ?_
    (refine gor hL ?_; (repeat (clear hL; intro t hL; refine gor hL ?_))); (with_reducible refine po_allocL hL rfl ?_); clear hL; intro p8 t hL
    refine gor hL ?_; (repeat (clear hL; intro t hL; refine gor hL ?_))
    (refine gor hL ?_; (repeat (clear hL; intro t hL; refine gor hL ?_))); (with_reducible refine po_allocL hL rfl ?_); clear hL; intro p9 t hL
    refine gor hL ?_; (repeat (clear hL; intro t hL; refine gor hL ?_))
    refine po_callv rfl rfl (hg x hxm y hym _) (fun _ _ h => False.elim h) ?_
    refine gor hL ?_; (repeat (clear hL; intro t hL; refine gor hL ?_))
    refine pcond_b rfl (fun h2 => ?_) (fun h2 => ?_)
    · have h2' : e x y = false := by simpa using h2
      refine gor hL ?_; (repeat (clear hL; intro t hL; refine gor hL ?_))
      rw [← hQ]
      exact pfin_pure (by rw [hI, h2']; rfl) hL.le
    have h2' : e x y = true := by simpa using h2
    refine gor hL ?_; (repeat (clear hL; intro t hL; refine gor hL ?_))
    refine ⟨hL.pk, ?_, tr2⟩
    rw [hI, h2']; rfl


theorem C44 (l k : List Fl) (hl : l.length < 2 ^ 60) : Pure (PCalls Tryd.prog GK) 44 [.d (.sl (l.map Fl.row)), .d (.sl (k.map Fl.row))] (b2 (eqAll Fl.same l k)) := by
  intro st; refine pcalls_of k44 e44 (of_decide_eq_true rfl) ?_; dsimp only [c44]; refine pstartL ?_; intro t hL; generalize hQ : pfin _ _ = Q
  refine gor hL ?_; (repeat (clear hL; intro t hL; refine gor hL ?_))
  refine pcond_b rfl (fun h1 => ?_) (fun h1 => ?_)
  · have h1' : l.length ≠ k.length := by simp at h1; omega
    refine gor hL ?_; (repeat (clear hL; intro t hL; refine gor hL ?_))
    rw [← hQ]
    exact pfin_pure (by rw [eqAll_ne h1']; rfl) hL.le
  have h1' : l.length = k.length := by simp at h1; omega
  refine gor hL ?_; (repeat (clear hL; intro t hL; refine gor hL ?_))
  (apply prangeK hL (l.length) (by omega) (fun i => eqAll Fl.same l k = eqAll Fl.same (l.drop i) (k.drop i))); (· exact trimA); (· exact fun _ => rfl)
  · rfl
  · intro t hL hI
    rw [List.drop_length, h1', List.drop_length] at hI
    refine gor hL ?_; (repeat (clear hL; intro t hL; refine gor hL ?_))
    rw [← hQ]
    exact pfin_pure (by rw [hI]; rfl) hL.le
  · intro i hi t hL hI
    obtain ⟨x, hx, hxm⟩ := elem_at hi
    obtain ⟨y, hy, hym⟩ := elem_at (l := k) (k := i) (by omega)
    rw [eqAll_drop hx hy] at hI
    refine pblock ?_
    refine gor hL ?_; (repeat (clear hL; intro t hL; refine gor hL ?_))
    have he : (x.name.toList == y.name.toList && x.number == y.number) = Fl.same x y := rfl
    refine gnm ?_; rw [he]
    refine pcond_b rfl (fun h2 => ?_) (fun h2 => ?_)
    · have h2' : Fl.same x y = false := by simpa using h2
      refine gor hL ?_; (repeat (clear hL; intro t hL; refine gor hL ?_))
      rw [← hQ]
      exact pfin_pure (by rw [hI, h2']; rfl) hL.le
    have h2' : Fl.same x y = true := by simpa using h2
    refine gor hL ?_; (repeat (clear hL; intro t hL; refine gor hL ?_))
    refine ⟨hL.pk, ?_, tr2⟩
    rw [hI, h2']; rfl

theorem C43 (x y : Al) (hx : x.ty.fit) : Pure (PCalls Tryd.prog GK) 43 [x.av, y.av] (b2 (x.same y)) := by
  intro st; refine pcalls_of k43 e43 (of_decide_eq_true rfl) ?_; dsimp only [c43]; refine pstartL ?_; intro t hL; generalize hQ : pfin _ _ = Q
  (refine gor hL ?_; (repeat (clear hL; intro t hL; refine gor hL ?_))); refine po_boxA hL ?_; clear hL; intro p1 t hL
  (refine gor hL ?_; (repeat (clear hL; intro t hL; refine gor hL ?_))); refine po_boxA hL ?_; clear hL; intro p2 t hL
  refine gor hL ?_; (repeat (clear hL; intro t hL; refine gor hL ?_))
  have he : (x.name.toList == y.name.toList) = seqB x.name y.name := rfl
  ((with_reducible apply po_g); (· exact gwt); (· (intro hw; refine does_call0 ?_ (C30 x.ty y.ty hx); exact gargs hw)))
  refine gor hL ?_; (repeat (clear hL; intro t hL; refine gor hL ?_))
  rw [← hQ]
  exact pfin_pure rfl hL.le
theorem C46 (x y : Pc) (hx : x.takes.fit ∧ x.answers.fit) : Pure (PCalls Tryd.prog GK) 46 [x.av, y.av] (b2 (x.same y)) := by
  intro st; refine pcalls_of k46 e46 (of_decide_eq_true rfl) ?_; dsimp only [c46]; refine pstartL ?_; intro t hL; generalize hQ : pfin _ _ = Q
  (refine gor hL ?_; (repeat (clear hL; intro t hL; refine gor hL ?_))); refine po_boxA hL ?_; clear hL; intro p1 t hL
  (refine gor hL ?_; (repeat (clear hL; intro t hL; refine gor hL ?_))); refine po_boxA hL ?_; clear hL; intro p2 t hL
  refine gor hL ?_; (repeat (clear hL; intro t hL; refine gor hL ?_))
  ((with_reducible apply po_g); (· exact gwt); (· (intro hw; refine does_call0 ?_ (C30 x.takes y.takes hx.1); exact gargs hw)))
  refine gor hL ?_; (repeat (clear hL; intro t hL; refine gor hL ?_))
  ((with_reducible apply po_g); (· exact gwt); (· (intro hw; refine does_call0 ?_ (C30 x.answers y.answers hx.2); exact gargs hw)))
  refine gor hL ?_; (repeat (clear hL; intro t hL; refine gor hL ?_))
  rw [← hQ]
  exact pfin_pure rfl hL.le
theorem C20 (x y : TB) (hx : x.fit) : Pure (PCalls Tryd.prog GK) 20 [x.av, y.av] (b2 (x.alike y)) := by
  have h1 := hx.types.1
  have h2 := hx.faults
  have h3 := hx.procs
  intro st; refine pcalls_of k20 e20 (of_decide_eq_true rfl) ?_; dsimp only [c20]; refine pstartL ?_; intro t hL; generalize hQ : pfin _ _ = Q
  (refine gor hL ?_; (repeat (clear hL; intro t hL; refine gor hL ?_))); refine po_boxA hL ?_; clear hL; intro p1 t hL
  (refine gor hL ?_; (repeat (clear hL; intro t hL; refine gor hL ?_))); refine po_boxA hL ?_; clear hL; intro p2 t hL
  refine gor hL ?_; (repeat (clear hL; intro t hL; refine gor hL ?_))
  ((with_reducible apply po_g); (· exact gwt); (· (intro hw; refine does_call0 ?_ (C42 43 Al.same x.types y.types (by omega) (fun a ha b _ => C43 a b (hx.types.2 a ha))); exact gargs hw)))
  refine gor hL ?_; (repeat (clear hL; intro t hL; refine gor hL ?_))
  ((with_reducible apply po_g); (· exact gwt); (· (intro hw; refine does_call0 ?_ (C44 x.faults y.faults (by omega)); exact gargs hw)))
  refine gor hL ?_; (repeat (clear hL; intro t hL; refine gor hL ?_))
  ((with_reducible apply po_g); (· exact gwt); (· (intro hw; refine does_call0 ?_ (C45 46 Pc.same x.procs y.procs (by omega) (fun a ha b _ => C46 a b (hx.pfit a ha))); exact gargs hw)))
  refine gor hL ?_; (repeat (clear hL; intro t hL; refine gor hL ?_))
  rw [← hQ]
  exact pfin_pure rfl hL.le
end Go.Pv
