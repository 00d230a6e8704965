/- Functions of the program, by value. No condition. -/
import Derived.Test.YtidelhpljjjjmaaE1
import Derived.Test.YtidelhpljjjjmaaV7
import Derived.Test.YtidelhpljjjjmaaV9
namespace Go.Pv
open Go.Proofs
set_option maxRecDepth 100000
set_option maxHeartbeats 4000000

/-- math.NaN -/
abbrev c35_0 : PCode :=
 (.seq (.region [⟨(.some 1), (.nat 1 (.c (.d (.int .u64 9221120237041090561)))), .none⟩,
   ⟨(.some 0), (.mov (.t 1)), .none⟩])
 .ret)
def c35 : PFun := ⟨
 (.seq (.region [⟨(.some 0), (.mov (.c (.d (.flt .f64 0)))), .none⟩])
 c35_0),
 0, 2, [(.tmp 0)]⟩

/-- math.Inf -/
abbrev c36_3 : PCode :=
 (.region [⟨(.some 3), (.mov (.c (.d (.int .u64 9218868437227405312)))), .none⟩])
abbrev c36_4 : PCode :=
 (.region [⟨(.some 3), (.mov (.c (.d (.int .u64 18442240474082181120)))), .none⟩])
abbrev c36_2 : PCode :=
 (.cond (.t 5)
  c36_3
  c36_4)
abbrev c36_5 : PCode :=
 (.keep [3] (.seq (.region [⟨(.some 6), (.mov (.t 3)), .none⟩,
   ⟨(.some 7), (.nat 1 (.t 6)), .none⟩,
   ⟨(.some 2), (.mov (.t 7)), .none⟩])
 .ret))
abbrev c36_1 : PCode :=
 (.seq (.seq (.region [⟨(.some 4), (.mov (.t 0)), .none⟩,
   ⟨(.some 5), (.bin .geq (.t 4) (.c (.d (.int .i64 0)))), .none⟩])
 c36_2)
 c36_5)
abbrev c36_0 : PCode :=
 (.seq (.region [⟨(.some 3), (.mov (.c (.d (.int .u64 0)))), .none⟩])
 c36_1)
def c36 : PFun := ⟨
 (.seq (.region [⟨(.some 2), (.mov (.c (.d (.flt .f64 0)))), .none⟩])
 c36_0),
 1, 8, [(.tmp 2)]⟩

/-- math.Copysign -/
abbrev c37_0 : PCode :=
 (.seq (.region [⟨(.some 5), (.mov (.t 0)), .none⟩,
   ⟨(.some 6), (.nat 0 (.t 5)), .none⟩,
   ⟨(.some 7), (.bin .andNot (.t 6) (.c (.d (.int .u64 9223372036854775808)))), .none⟩,
   ⟨(.some 8), (.mov (.t 1)), .none⟩,
   ⟨(.some 9), (.nat 0 (.t 8)), .none⟩,
   ⟨(.some 10), (.bin .and (.t 9) (.c (.d (.int .u64 9223372036854775808)))), .none⟩,
   ⟨(.some 11), (.bin .or (.t 7) (.t 10)), .none⟩,
   ⟨(.some 12), (.nat 1 (.t 11)), .none⟩,
   ⟨(.some 4), (.mov (.t 12)), .none⟩])
 .ret)
def c37 : PFun := ⟨
 (.seq (.region [⟨(.some 4), (.mov (.c (.d (.flt .f64 0)))), .none⟩])
 c37_0),
 2, 13, [(.tmp 4)]⟩

/-- prompter/prompterlaw03.Float -/
abbrev c16_3 : PCode :=
 (.seq (.region [⟨(.some 9), (.call0 35 []), .none⟩,
   ⟨(.some 4), (.mov (.t 9)), .none⟩])
 .ret)
abbrev c16_6 : PCode :=
 (.seq (.region [⟨(.some 12), (.mov (.t 0)), .none⟩,
   ⟨(.some 13), (.bin .rem (.t 12) (.c (.d (.int .u64 2)))), .none⟩,
   ⟨(.some 14), (.cvt .i64 (.t 13)), .none⟩,
   ⟨(.some 15), (.bin .mul (.t 14) (.c (.d (.int .i64 2)))), .none⟩,
   ⟨(.some 16), (.bin .sub (.t 15) (.c (.d (.int .i64 1)))), .none⟩,
   ⟨(.some 17), (.call0 36 [(.t 16)]), .none⟩,
   ⟨(.some 4), (.mov (.t 17)), .none⟩])
 .ret)
abbrev c16_9 : PCode :=
 (.seq (.region [⟨(.some 20), (.mov (.t 0)), .none⟩,
   ⟨(.some 21), (.bin .rem (.t 20) (.c (.d (.int .u64 2)))), .none⟩,
   ⟨(.some 22), (.cvtF .f64 (.t 21)), .none⟩,
   ⟨(.some 23), (.bin .sub (.t 22) (.c (.d (.flt .f64 4602678819172646912)))), .none⟩,
   ⟨(.some 24), (.call0 37 [(.c (.d (.flt .f64 0))), (.t 23)]), .none⟩,
   ⟨(.some 4), (.mov (.t 24)), .none⟩])
 .ret)
abbrev c16_12 : PCode :=
 (.region [⟨(.some 27), (.bin .eql (.t 6) (.c (.d (.int .u8 4)))), .none⟩,
   ⟨(.some 25), (.mov (.t 27)), .none⟩])
abbrev c16_11 : PCode :=
 (.cond (.t 25)
  .skip
  c16_12)
abbrev c16_14 : PCode :=
 (.seq (.region [⟨(.some 28), (.mov (.t 0)), .none⟩,
   ⟨(.some 29), (.bin .rem (.t 28) (.c (.d (.int .u64 2001)))), .none⟩,
   ⟨(.some 30), (.cvt .i64 (.t 29)), .none⟩,
   ⟨(.some 31), (.bin .sub (.t 30) (.c (.d (.int .i64 1000)))), .none⟩,
   ⟨(.some 32), (.cvtF .f64 (.t 31)), .none⟩,
   ⟨(.some 4), (.mov (.t 32)), .none⟩])
 .ret)
abbrev c16_13 : PCode :=
 (.keep [0, 25] (.cond (.t 25)
  c16_14
  .skip))
abbrev c16_10 : PCode :=
 (.seq (.seq (.region [⟨(.some 26), (.bin .eql (.t 6) (.c (.d (.int .u8 3)))), .none⟩,
   ⟨(.some 25), (.mov (.t 26)), .none⟩])
 c16_11)
 c16_13)
abbrev c16_8 : PCode :=
 (.cond (.t 18)
  c16_9
  c16_10)
abbrev c16_7 : PCode :=
 (.seq (.region [⟨(.some 19), (.bin .eql (.t 6) (.c (.d (.int .u8 2)))), .none⟩,
   ⟨(.some 18), (.mov (.t 19)), .none⟩])
 c16_8)
abbrev c16_5 : PCode :=
 (.cond (.t 10)
  c16_6
  c16_7)
abbrev c16_4 : PCode :=
 (.seq (.region [⟨(.some 11), (.bin .eql (.t 6) (.c (.d (.int .u8 1)))), .none⟩,
   ⟨(.some 10), (.mov (.t 11)), .none⟩])
 c16_5)
abbrev c16_2 : PCode :=
 (.cond (.t 7)
  c16_3
  c16_4)
abbrev c16_1 : PCode :=
 (.block 0 (.seq (.region [⟨(.some 8), (.bin .eql (.t 6) (.c (.d (.int .u8 0)))), .none⟩,
   ⟨(.some 7), (.mov (.t 8)), .none⟩])
 c16_2))
abbrev c16_15 : PCode :=
 (.seq (.region [⟨(.some 33), (.mov (.t 0)), .none⟩,
   ⟨(.some 34), (.nat 1 (.t 33)), .none⟩,
   ⟨(.some 4), (.mov (.t 34)), .none⟩])
 .ret)
abbrev c16_0 : PCode :=
 (.seq (.seq (.region [⟨(.some 5), (.mov (.t 1)), .none⟩,
   ⟨(.some 6), (.bin .rem (.t 5) (.c (.d (.int .u8 8)))), .none⟩])
 c16_1)
 c16_15)
def c16 : PFun := ⟨
 (.seq (.region [⟨(.some 4), (.mov (.c (.d (.flt .f64 0)))), .none⟩])
 c16_0),
 2, 35, [(.tmp 4)]⟩

/-- prompter/prompterlaw08.Type -/
abbrev c15_0 : PCode :=
 (.seq (.region [⟨(.some 3), (.load .true 3 (.t 1) .false), .none⟩,
   ⟨(.some 4), (.call0 27 [(.t 3), (.c (.d (.int .i64 4))), (.c (.full []))]), .none⟩,
   ⟨.none, (.store 4 (.t 2) (.t 4)), .none⟩])
 .ret)
def c15 : PFun := ⟨
 (.seq (.region [⟨(.some 1), (.box 3 (.t 0)), .none⟩,
   ⟨(.some 2), (.alloc [(.d (.int .u8 0)), (.d (.int .i64 0)), (.full []), (.full [])]), .none⟩])
 c15_0),
 1, 5, [(.cell 2 .true 4)]⟩

/-- prompter/prompterlaw08.Awake -/
abbrev c12_2 : PCode :=
 (.keep [1, 2] (.seq (.region [⟨(.some 11), (.faddr 3 (.t 2)), .none⟩,
   ⟨(.some 12), (.load .false 1 (.t 11) .false), .none⟩,
   ⟨(.some 13), (.len (.t 12)), .none⟩,
   ⟨(.some 14), (.bin .eql (.t 13) (.c (.d (.int .i64 2)))), .none⟩,
   ⟨(.some 15), (.mov (.t 14)), .none⟩,
   ⟨(.some 16), (.faddr 3 (.t 2)), (.some (15, .true))⟩,
   ⟨(.some 17), (.load .false 1 (.t 16) .false), (.some (15, .true))⟩,
   ⟨(.some 18), (.iaddr 4 (.t 17) (.c (.d (.int .i64 0)))), (.some (15, .true))⟩,
   ⟨(.some 19), (.faddr 0 (.t 18)), (.some (15, .true))⟩,
   ⟨(.some 20), (.load .false 1 (.t 19) .false), (.some (15, .true))⟩,
   ⟨(.some 21), (.bin .eql (.t 20) (.c (.d (.int .i64 7)))), (.some (15, .true))⟩,
   ⟨(.some 22), (.pick (.t 15) (.t 21) (.c (.d (.bool .false)))), .none⟩,
   ⟨(.some 23), (.mov (.t 22)), .none⟩,
   ⟨(.some 24), (.faddr 3 (.t 2)), (.some (23, .true))⟩,
   ⟨(.some 25), (.load .false 1 (.t 24) .false), (.some (23, .true))⟩,
   ⟨(.some 26), (.iaddr 4 (.t 25) (.c (.d (.int .i64 1)))), (.some (23, .true))⟩,
   ⟨(.some 27), (.faddr 0 (.t 26)), (.some (23, .true))⟩,
   ⟨(.some 28), (.load .false 1 (.t 27) .false), (.some (23, .true))⟩,
   ⟨(.some 29), (.bin .eql (.t 28) (.c (.d (.int .i64 7)))), (.some (23, .true))⟩,
   ⟨(.some 30), (.pick (.t 23) (.t 29) (.c (.d (.bool .false)))), .none⟩,
   ⟨(.some 31), (.mov (.t 30)), .none⟩,
   ⟨(.some 32), (.load .true 4 (.t 1) .false), (.some (31, .true))⟩,
   ⟨(.some 33), (.load .true 4 (.t 2) .false), (.some (31, .true))⟩,
   ⟨(.some 34), (.call0 22 [(.t 32), (.t 33)]), (.some (31, .true))⟩,
   ⟨(.some 35), (.bin .eql (.t 34) (.c (.d (.int .i64 17)))), (.some (31, .true))⟩,
   ⟨(.some 36), (.pick (.t 31) (.t 35) (.c (.d (.bool .false)))), .none⟩,
   ⟨(.some 0), (.mov (.t 36)), .none⟩])
 .ret))
abbrev c12_1 : PCode :=
 (.keep [1] (.seq (.region [⟨(.some 4), (.bsl 1 [(.c (.d (.str (bs [97])))), (.c (.d (.str (bs [98]))))]), .none⟩,
   ⟨(.some 5), (.load .true 4 (.t 1) .false), .none⟩,
   ⟨(.some 6), (.load .true 4 (.t 1) .false), .none⟩,
   ⟨(.some 7), (.bsl 4 [(.t 5), (.t 6)]), .none⟩,
   ⟨(.some 8), (.bld [(.d (.int .u8 0)), (.d (.int .i64 0)), (.full []), (.full [])] [(0, (1, (.c (.d (.int .u8 6))))), (2, (1, (.t 4))), (3, (1, (.t 7)))]), .none⟩,
   ⟨(.some 9), (.bsl 1 [(.c (.d (.int .i64 7)))]), .none⟩,
   ⟨(.some 10), (.call0 14 [(.t 8), (.t 9)]), .none⟩,
   ⟨(.some 2), (.alloc [(.d (.int .i64 0)), (.d (.flt .f64 0)), (.d (.str (bs []))), (.full [])]), .none⟩,
   ⟨.none, (.store 4 (.t 2) (.t 10)), .none⟩])
 c12_2))
abbrev c12_0 : PCode :=
 (.seq (.region [⟨(.some 3), (.bld [(.d (.int .u8 0)), (.d (.int .i64 0)), (.full []), (.full [])] [(0, (1, (.c (.d (.int .u8 1)))))]), .none⟩,
   ⟨(.some 1), (.alloc [(.d (.int .u8 0)), (.d (.int .i64 0)), (.full []), (.full [])]), .none⟩,
   ⟨.none, (.store 4 (.t 1) (.t 3)), .none⟩])
 c12_1)
def c12 : PFun := ⟨
 (.seq (.region [⟨(.some 0), (.mov (.c (.d (.bool .false)))), .none⟩])
 c12_0),
 0, 37, [(.tmp 0)]⟩

/-- prompter/prompterlaw08.ValueSame -/
abbrev c3_2 : PCode :=
 (.seq (.region [⟨(.some 14), (.mov (.c (.d (.bool .false)))), .none⟩])
 .ret)
abbrev c3_1 : PCode :=
 (.cond (.t 22)
  c3_2
  .skip)
abbrev c3_5 : PCode :=
 (.seq (.region [⟨(.some 14), (.mov (.c (.d (.bool .true)))), .none⟩])
 .ret)
abbrev c3_4 : PCode :=
 (.cond (.t 35)
  c3_5
  .skip)
abbrev c3_10 : PCode :=
 (.keep [18, 19, 20] (.seq (.region [⟨(.some 78), (.load .true 4 (.t 18) .false), .none⟩,
   ⟨(.some 79), (.load .true 4 (.t 19) .false), .none⟩,
   ⟨(.some 80), (.call0 18 [(.t 78), (.t 79)]), .none⟩,
   ⟨(.some 81), (.mov (.t 20)), .none⟩,
   ⟨(.some 82), (.eqB .false (.t 80) (.t 81)), .none⟩,
   ⟨(.some 83), (.mov (.t 82)), .none⟩,
   ⟨(.some 84), (.load .true 4 (.t 18) .false), (.some (83, .true))⟩,
   ⟨(.some 85), (.load .true 4 (.t 18) .false), (.some (83, .true))⟩,
   ⟨(.some 86), (.call0 18 [(.t 84), (.t 85)]), (.some (83, .true))⟩,
   ⟨(.some 87), (.pick (.t 83) (.t 86) (.c (.d (.bool .false)))), .none⟩,
   ⟨(.some 14), (.mov (.t 87)), .none⟩])
 .ret))
abbrev c3_9 : PCode :=
 (.keep [16, 17, 18, 19] (.seq (.region [⟨(.some 54), (.mov (.t 16)), .none⟩,
   ⟨(.some 55), (.mov (.t 16)), .none⟩,
   ⟨(.some 56), (.bin .neq (.t 54) (.t 55)), .none⟩,
   ⟨(.some 57), (.mov (.t 56)), .none⟩,
   ⟨(.some 58), (.mov (.t 17)), (.some (57, .true))⟩,
   ⟨(.some 59), (.mov (.t 17)), (.some (57, .true))⟩,
   ⟨(.some 60), (.bin .neq (.t 58) (.t 59)), (.some (57, .true))⟩,
   ⟨(.some 61), (.pick (.t 57) (.t 60) (.c (.d (.bool .false)))), .none⟩,
   ⟨(.some 62), (.mov (.t 61)), .none⟩,
   ⟨(.some 63), (.mov (.t 16)), (.some (62, .false))⟩,
   ⟨(.some 64), (.mov (.t 17)), (.some (62, .false))⟩,
   ⟨(.some 65), (.bin .eql (.t 63) (.t 64)), (.some (62, .false))⟩,
   ⟨(.some 66), (.mov (.t 65)), (.some (62, .false))⟩,
   ⟨(.some 67), (.mov (.t 16)), (.some (66, .true))⟩,
   ⟨(.some 68), (.bin .neq (.t 67) (.c (.d (.flt .f64 0)))), (.some (66, .true))⟩,
   ⟨(.some 69), (.mov (.t 68)), (.some (66, .true))⟩,
   ⟨(.some 70), (.mov (.t 16)), (.some (69, .false))⟩,
   ⟨(.some 71), (.bin .quo (.c (.d (.flt .f64 4607182418800017408))) (.t 70)), (.some (69, .false))⟩,
   ⟨(.some 72), (.mov (.t 17)), (.some (69, .false))⟩,
   ⟨(.some 73), (.bin .quo (.c (.d (.flt .f64 4607182418800017408))) (.t 72)), (.some (69, .false))⟩,
   ⟨(.some 74), (.bin .eql (.t 71) (.t 73)), (.some (69, .false))⟩,
   ⟨(.some 75), (.pick (.t 69) (.c (.d (.bool .true))) (.t 74)), (.some (66, .true))⟩,
   ⟨(.some 76), (.pick (.t 66) (.t 75) (.c (.d (.bool .false)))), (.some (62, .false))⟩,
   ⟨(.some 77), (.pick (.t 62) (.c (.d (.bool .true))) (.t 76)), .none⟩,
   ⟨(.some 20), (.mov (.t 77)), .none⟩])
 c3_10))
abbrev c3_8 : PCode :=
 (.keep [2, 15, 16, 17] (.seq (.region [⟨(.some 46), (.load .true 4 (.t 15) .false), .none⟩,
   ⟨(.some 47), (.mov (.t 2)), .none⟩,
   ⟨(.some 48), (.mov (.t 16)), .none⟩,
   ⟨(.some 49), (.callp 17 [(.t 46), (.t 47), (.c (.d (.int .u8 1))), (.c (.d (.int .i64 0))), (.t 48), (.c (.d (.str (bs []))))]), .none⟩,
   ⟨(.some 50), (.load .true 4 (.t 15) .false), .none⟩,
   ⟨(.some 51), (.mov (.t 2)), .none⟩,
   ⟨(.some 52), (.mov (.t 17)), .none⟩,
   ⟨(.some 53), (.callp 17 [(.t 50), (.t 51), (.c (.d (.int .u8 1))), (.c (.d (.int .i64 0))), (.t 52), (.c (.d (.str (bs []))))]), .none⟩,
   ⟨(.some 18), (.alloc [(.d (.int .i64 0)), (.d (.flt .f64 0)), (.d (.str (bs []))), (.full [])]), .none⟩,
   ⟨(.some 19), (.alloc [(.d (.int .i64 0)), (.d (.flt .f64 0)), (.d (.str (bs []))), (.full [])]), .none⟩,
   ⟨.none, (.store 4 (.t 18) (.t 49)), .none⟩,
   ⟨.none, (.store 4 (.t 19) (.t 53)), .none⟩])
 c3_9))
abbrev c3_7 : PCode :=
 (.keep [2, 3, 4, 5, 6, 15] (.seq (.region [⟨(.some 40), (.mov (.t 3)), .none⟩,
   ⟨(.some 41), (.mov (.t 5)), .none⟩,
   ⟨(.some 42), (.call0 16 [(.t 40), (.t 41)]), .none⟩,
   ⟨(.some 43), (.mov (.t 4)), .none⟩,
   ⟨(.some 44), (.mov (.t 6)), .none⟩,
   ⟨(.some 45), (.call0 16 [(.t 43), (.t 44)]), .none⟩,
   ⟨(.some 16), (.mov (.t 42)), .none⟩,
   ⟨(.some 17), (.mov (.t 45)), .none⟩])
 c3_8))
abbrev c3_6 : PCode :=
 (.keep [1, 2, 3, 4, 5, 6, 7] (.seq (.region [⟨(.some 36), (.load .true 3 (.t 7) .false), .none⟩,
   ⟨(.some 37), (.call0 15 [(.t 36)]), .none⟩,
   ⟨(.some 38), (.mov (.t 1)), .none⟩,
   ⟨(.some 39), (.call0 14 [(.t 37), (.t 38)]), .none⟩,
   ⟨(.some 15), (.alloc [(.d (.int .i64 0)), (.d (.flt .f64 0)), (.d (.str (bs []))), (.full [])]), .none⟩,
   ⟨.none, (.store 4 (.t 15) (.t 39)), .none⟩])
 c3_7))
abbrev c3_3 : PCode :=
 (.keep [1, 2, 3, 4, 5, 6, 7] (.seq (.seq (.region [⟨(.some 23), (.load .true 3 (.t 7) .false), .none⟩,
   ⟨(.some 24), (.call0 13 [(.t 23), (.c (.d (.int .i64 4)))]), .none⟩,
   ⟨(.some 25), (.not (.t 24)), .none⟩,
   ⟨(.some 26), (.mov (.t 25)), .none⟩,
   ⟨(.some 27), (.mov (.t 1)), (.some (26, .false))⟩,
   ⟨(.some 28), (.len (.t 27)), (.some (26, .false))⟩,
   ⟨(.some 29), (.bin .gtr (.t 28) (.c (.d (.int .i64 40)))), (.some (26, .false))⟩,
   ⟨(.some 30), (.pick (.t 26) (.c (.d (.bool .true))) (.t 29)), .none⟩,
   ⟨(.some 31), (.mov (.t 30)), .none⟩,
   ⟨(.some 32), (.mov (.t 2)), (.some (31, .false))⟩,
   ⟨(.some 33), (.len (.t 32)), (.some (31, .false))⟩,
   ⟨(.some 34), (.bin .gtr (.t 33) (.c (.d (.int .i64 10)))), (.some (31, .false))⟩,
   ⟨(.some 35), (.pick (.t 31) (.c (.d (.bool .true))) (.t 34)), .none⟩])
 c3_4)
 c3_6))
abbrev c3_0 : PCode :=
 (.seq (.seq (.region [⟨(.some 21), (.call0 12 []), .none⟩,
   ⟨(.some 22), (.not (.t 21)), .none⟩])
 c3_1)
 c3_3)
def c3 : PFun := ⟨
 (.seq (.region [⟨(.some 7), (.box 3 (.t 0)), .none⟩,
   ⟨(.some 14), (.mov (.c (.d (.bool .false)))), .none⟩])
 c3_0),
 7, 88, [(.tmp 14)]⟩

theorem e35 : entered Try.prog 35 = true := by kernel_rfl
theorem k35 : compFun Try.prog (fun _ => 0) 35 = some c35.er := by kernel_rfl
theorem e36 : entered Try.prog 36 = true := by kernel_rfl
theorem k36 : compFun Try.prog (fun _ => 0) 36 = some c36.er := by kernel_rfl
theorem e37 : entered Try.prog 37 = true := by kernel_rfl
theorem k37 : compFun Try.prog (fun _ => 0) 37 = some c37.er := by kernel_rfl
theorem e16 : entered Try.prog 16 = true := by kernel_rfl
theorem k16 : compFun Try.prog (fun _ => 0) 16 = some c16.er := by kernel_rfl
theorem e15 : entered Try.prog 15 = true := by kernel_rfl
theorem k15 : compFun Try.prog (fun _ => 0) 15 = some c15.er := by kernel_rfl
theorem e12 : entered Try.prog 12 = true := by kernel_rfl
theorem k12 : compFun Try.prog (fun _ => 0) 12 = some c12.er := by kernel_rfl
theorem e3 : entered Try.prog 3 = true := by kernel_rfl
theorem k3 : compFun Try.prog (fun i => if i = 7 then 1 else 0) 3 = some c3.er := by kernel_rfl


theorem C35 : Pure (PCalls Try.prog GG) 35 [] (.d (.flt .f64 9221120237041090561)) := by
  intro st; refine pcalls_of k35 e35 (of_decide_eq_true rfl) ?_; dsimp only [c35]; refine pstartL ?_; intro t hL; generalize hQ : pfin _ _ = Q
  refine gor hL ?_; (repeat (clear hL; intro t hL; refine gor hL ?_))
  rw [← hQ]
  exact pfin_pure rfl hL.le
def infB (n : Int) : Nat := if n ≥ 0 then 9218868437227405312 else 18442240474082181120
theorem C36 (n : Int) : Pure (PCalls Try.prog GG) 36 [.d (.int .i64 n)] (.d (.flt .f64 (infB n))) := by
  intro st; refine pcalls_of k36 e36 (of_decide_eq_true rfl) ?_; dsimp only [c36]; refine pstartL ?_; intro t hL; generalize hQ : pfin _ _ = Q
  refine gor hL ?_; (repeat (clear hL; intro t hL; refine gor hL ?_))
  refine pjoin (fun s u => s = put (fun _ => .undef) (some 3) (.d (.int .u64 (infB n))) ∧ Lay st [] u) ?_ ?_
  · refine gor hL ?_; (repeat (clear hL; intro t hL; refine gor hL ?_))
    refine pcond_b rfl (fun h => ?_) (fun h => ?_)
    · have h' : n ≥ 0 := by simpa using h
      refine gor hL ?_; (repeat (clear hL; intro t hL; refine gor hL ?_))
      exact ⟨by rw [infB, if_pos h']; exact tr2, hL⟩
    · have h' : ¬ n ≥ 0 := by simpa using h
      refine gor hL ?_; (repeat (clear hL; intro t hL; refine gor hL ?_))
      exact ⟨by rw [infB, if_neg h']; exact tr2, hL⟩
  rintro s t ⟨rfl, hL⟩
  refine gor hL ?_; (repeat (clear hL; intro t hL; refine gor hL ?_))
  rw [← hQ]
  exact pfin_pure (by rw [infB]; split <;> rfl) hL.le
def copyB (a b : Nat) : Nat := (IntKind.u64.wrap (BitVec.ofInt IntKind.u64.bits (IntKind.u64.wrap (BitVec.ofInt IntKind.u64.bits a &&& ~~~(BitVec.ofInt IntKind.u64.bits 9223372036854775808)).toNat) ||| BitVec.ofInt IntKind.u64.bits (IntKind.u64.wrap (BitVec.ofInt IntKind.u64.bits b &&& BitVec.ofInt IntKind.u64.bits 9223372036854775808).toNat)).toNat).toNat
theorem C37 (a b : Nat) : Pure (PCalls Try.prog GG) 37 [.d (.flt .f64 a), .d (.flt .f64 b)] (.d (.flt .f64 (copyB a b))) := by
  intro st; refine pcalls_of k37 e37 (of_decide_eq_true rfl) ?_; dsimp only [c37]; refine pstartL ?_; intro t hL; generalize hQ : pfin _ _ = Q
  refine gor hL ?_; (repeat (clear hL; intro t hL; refine gor hL ?_))
  rw [← hQ]
  exact pfin_pure rfl hL.le
theorem copyB_lt (a b : Nat) : copyB a b < 2 ^ 64 := by
  unfold copyB
  generalize (BitVec.toNat _ : Nat) = k
  rw [IntKind.wrap_u64]
  omega
theorem C16 (n e : Int) (hn : 0 ≤ n ∧ n ≤ 18446744073709551615) (he : 0 ≤ e ∧ e ≤ 255) : ∃ b, b < 2 ^ 64 ∧ Pure (PCalls Try.prog GG) 16 [.d (.int .u64 n), .d (.int .u8 e)] (.d (.flt .f64 b)) := by
  have h8 : e.tmod 8 = e % 8 := IntWalk.rem_in _ _ (by omega)
  have h2 : n.tmod 2 = n % 2 := IntWalk.rem_in _ _ (by omega)
  have h21 : n.tmod 2001 = n % 2001 := IntWalk.rem_in _ _ (by omega)
  have hsub : ∃ z, FloatKind.f64.format.sub (FloatKind.f64.nearest (n % 2)) 4602678819172646912 = some z := by
    have : n % 2 = 0 ∨ n % 2 = 1 := by omega
    rcases this with h | h <;> rw [h]
    · exact ⟨13826050856027422720, by decide +kernel⟩
    · exact ⟨4602678819172646912, by decide +kernel⟩
  obtain ⟨z, hz⟩ := hsub
  refine ⟨if e % 8 = 0 then 9221120237041090561 else if e % 8 = 1 then infB (IntKind.i64.wrap (IntKind.i64.wrap (IntKind.i64.wrap (n % 2) * 2) - 1)) else if e % 8 = 2 then copyB 0 z else if e % 8 = 3 ∨ e % 8 = 4 then FloatKind.f64.nearest (IntKind.i64.wrap (IntKind.i64.wrap (n % 2001) - 1000)) else n.toNat, ?_, ?_⟩
  · repeat' split
    · decide
    · unfold infB; split <;> decide
    · exact copyB_lt _ _
    · exact near_lt _
    · omega
  intro st; refine pcalls_of k16 e16 (of_decide_eq_true rfl) ?_; dsimp only [c16]; refine pstartL ?_; intro t hL; generalize hQ : pfin _ _ = Q
  refine gor hL ?_; (repeat (clear hL; intro t hL; refine gor hL ?_))
  refine gnm ?_; rw [h8]
  refine gor hL ?_; (repeat (clear hL; intro t hL; refine gor hL ?_))
  refine pcond_b rfl (fun g0 => ?_) (fun g0 => ?_)
  · have g0' : e % 8 = 0 := by simpa using g0
    rw [if_pos g0'] at hQ
    refine gor hL ?_; (repeat (clear hL; intro t hL; refine gor hL ?_))
    refine po_c0 (C35) ?_
    refine gor hL ?_; (repeat (clear hL; intro t hL; refine gor hL ?_))
    rw [← hQ]
    exact pfin_pure rfl hL.le
  have n0 : ¬ e % 8 = 0 := by simpa using g0
  rw [if_neg n0] at hQ
  refine gor hL ?_; (repeat (clear hL; intro t hL; refine gor hL ?_))
  refine pcond_b rfl (fun g1 => ?_) (fun g1 => ?_)
  · have g1' : e % 8 = 1 := by simpa using g1
    rw [if_pos g1'] at hQ
    refine gor hL ?_; (repeat (clear hL; intro t hL; refine gor hL ?_))
    refine gnm ?_; rw [h2]
    refine gor hL ?_; (repeat (clear hL; intro t hL; refine gor hL ?_))
    refine po_c0 (C36 _) ?_
    refine gor hL ?_; (repeat (clear hL; intro t hL; refine gor hL ?_))
    rw [← hQ]
    exact pfin_pure rfl hL.le
  have n1 : ¬ e % 8 = 1 := by simpa using g1
  rw [if_neg n1] at hQ
  refine gor hL ?_; (repeat (clear hL; intro t hL; refine gor hL ?_))
  refine pcond_b rfl (fun g2 => ?_) (fun g2 => ?_)
  · have g2' : e % 8 = 2 := by simpa using g2
    rw [if_pos g2'] at hQ
    refine gor hL ?_; (repeat (clear hL; intro t hL; refine gor hL ?_))
    refine gnm ?_; rw [h2]
    refine gor hL ?_; (repeat (clear hL; intro t hL; refine gor hL ?_))
    refine po rfl (show ev _ _ _ = some (.d (.flt .f64 z)) from ?_) ?_
    · show fltBin .sub .f64 _ _ = _
      rw [fltBin, hz]; rfl
    refine gor hL ?_; (repeat (clear hL; intro t hL; refine gor hL ?_))
    refine po_c0 (C37 _ _) ?_
    refine gor hL ?_; (repeat (clear hL; intro t hL; refine gor hL ?_))
    rw [← hQ]
    exact pfin_pure rfl hL.le
  have n2 : ¬ e % 8 = 2 := by simpa using g2
  rw [if_neg n2] at hQ
  refine gor hL ?_; (repeat (clear hL; intro t hL; refine gor hL ?_))
  refine pjoin (fun s u => s = put (put (fun _ => .undef) (some 25) (b2 (decide (e % 8 = 3 ∨ e % 8 = 4)))) (some 0) (.d (.int .u64 n)) ∧ Lay st [] u) ?_ ?_
  · refine gor hL ?_; (repeat (clear hL; intro t hL; refine gor hL ?_))
    refine pcond_b rfl (fun g3 => ?_) (fun g3 => ?_)
    · have g3' : e % 8 = 3 := by simpa using g3
      refine gor hL ?_; (repeat (clear hL; intro t hL; refine gor hL ?_))
      exact ⟨by rw [show decide (e % 8 = 3 ∨ e % 8 = 4) = (e % 8 == 3) by rw [g3, Bool.eq_iff_iff]; simp [g3']]; exact tr2, hL⟩
    · have n3 : ¬ e % 8 = 3 := by simpa using g3
      refine gor hL ?_; (repeat (clear hL; intro t hL; refine gor hL ?_))
      exact ⟨by rw [show decide (e % 8 = 3 ∨ e % 8 = 4) = (e % 8 == 4) by rw [Bool.eq_iff_iff]; simp; omega]; exact tr2, hL⟩
  rintro s u ⟨rfl, hL⟩
  refine pcond_b rfl (fun g3 => ?_) (fun g3 => ?_)
  · have g3' : e % 8 = 3 ∨ e % 8 = 4 := by simpa using g3
    rw [if_pos g3'] at hQ
    refine gor hL ?_; (repeat (clear hL; intro t hL; refine gor hL ?_))
    refine gnm ?_; rw [h21]
    refine gor hL ?_; (repeat (clear hL; intro t hL; refine gor hL ?_))
    rw [← hQ]
    exact pfin_pure rfl hL.le
  have n3 : ¬ (e % 8 = 3 ∨ e % 8 = 4) := by simpa using g3
  rw [if_neg n3] at hQ
  refine gor hL ?_; (repeat (clear hL; intro t hL; refine gor hL ?_))
  rw [← hQ]
  exact pfin_pure rfl hL.le

theorem C15 (x : Nd) (hx : x.fit) : Pure (PCalls Try.prog GG) 15 [x.av] (Nd.typ 4 x []).av := by
  have hc := C27 4 x [] (by decide) hx (by decide)
  rw [KT.av_eq] at *
  intro st; refine pcalls_of k15 e15 (of_decide_eq_true rfl) ?_; dsimp only [c15]; refine pstartL ?_; intro t hL; generalize hQ : pfin _ _ = Q
  (refine gor hL ?_; (repeat (clear hL; intro t hL; refine gor hL ?_))); refine po_boxA hL ?_; clear hL; intro p1 t hL
  (refine gor hL ?_; (repeat (clear hL; intro t hL; refine gor hL ?_))); (with_reducible refine po_allocL hL rfl ?_); clear hL; intro p2 t hL
  refine gor hL ?_; (repeat (clear hL; intro t hL; refine gor hL ?_))
  refine po_c0 (hc) ?_
  refine gor hL ?_; (repeat (clear hL; intro t hL; refine gor hL ?_))
  rw [← hQ]
  refine pwk1 hL ?_
  rfl
def cardT : KT := .mk 1 0 [] []
def recT (n : List ByteArray) (o : List KT) : KT := .mk 6 0 n o
theorem C12 : Pure (PCalls Try.prog GG) 12 [] (b2 true) := by
  have hw : WT 2 (recT [bs [97], bs [98]] [cardT, cardT]) := .reco 1 6 _ _ (.inl rfl) (by decide) rfl ⟨by decide, fun s hs => by
    have : s = bs [97] ∨ s = bs [98] := by simpa using hs
    rcases this with rfl | rfl <;> decide⟩ (by
    intro x hx
    have : x = cardT := by simpa using hx
    rw [this]
    exact .base 0 1 (by decide))
  have hb := C14 [7] (by decide) (by decide) _ hw.fit (hw.posd 20) (Nat.lt_of_le_of_lt (hw.cost 20) (by decide))
  have hv : buildV [7] (recT [bs [97], bs [98]] [cardT, cardT]) = .mk 0 0 (bs []) [VT.num 7, VT.num 7] := by rfl
  rw [hv] at hb
  have hfit : (VT.mk 0 0 (bs []) [VT.num 7, VT.num 7]).fit := hv ▸ buildV_fit (by decide) hw.fit
  have hc := C22 cardT (.mk 0 0 (bs []) [VT.num 7, VT.num 7]) (WT.base 0 1 (by decide)).fit hfit
  have he : VT.checkE cardT (.mk 0 0 (bs []) [VT.num 7, VT.num 7]) = 17 := by simp [VT.checkE, VT.is, cardT, KT.kind, VT.plain, VT.of]
  rw [he] at hc
  have hb' : Pure (PCalls Try.prog GG) 14 [.agg [.d (.int .u8 6), .d (.int .i64 0), .d (.sl [[.str (bs [97])], [.str (bs [98])]]), .d (.sl [[.int .u8 1, .int .i64 0, .sl [], .sl []], [.int .u8 1, .int .i64 0, .sl [], .sl []]])], .d (i64s [7])] (.agg [.d (.int .i64 0), .d (.flt .f64 0), .d (.str (bs [])), .d (.sl [[.int .i64 7, .flt .f64 0, .str (bs []), .sl []], [.int .i64 7, .flt .f64 0, .str (bs []), .sl []]])]) := hb
  have hc' : Pure (PCalls Try.prog GG) 22 [.agg [.d (.int .u8 1), .d (.int .i64 0), .d (.sl []), .d (.sl [])], .agg [.d (.int .i64 0), .d (.flt .f64 0), .d (.str (bs [])), .d (.sl [[.int .i64 7, .flt .f64 0, .str (bs []), .sl []], [.int .i64 7, .flt .f64 0, .str (bs []), .sl []]])]] (.d (.int .i64 17)) := hc
  clear hb hc
  intro st; refine pcalls_of k12 e12 (of_decide_eq_true rfl) ?_; dsimp only [c12]; refine pstartL ?_; intro t hL; generalize hQ : pfin _ _ = Q
  (refine gor hL ?_; (repeat (clear hL; intro t hL; refine gor hL ?_))); (with_reducible refine po_allocL hL rfl ?_); clear hL; intro p1 t hL
  refine gor hL ?_; (repeat (clear hL; intro t hL; refine gor hL ?_))
  refine po_c0 (hb') ?_
  refine gor hL ?_; (repeat (clear hL; intro t hL; refine gor hL ?_))
  (refine gor hL ?_; (repeat (clear hL; intro t hL; refine gor hL ?_))); (with_reducible refine po_allocL hL rfl ?_); clear hL; intro p2 t hL
  refine gor hL ?_; (repeat (clear hL; intro t hL; refine gor hL ?_))
  refine po_c0 (hc') ?_
  refine gor hL ?_; (repeat (clear hL; intro t hL; refine gor hL ?_))
  rw [← hQ]
  exact pfin_pure rfl hL.le

theorem typ_le {x : Nd} (hx : x.fit) : (Nd.typ 4 x []).fit ∧ posd 20 (Nd.typ 4 x []) ∧ cost 20 (Nd.typ 4 x []) < 2 ^ 60 :=
  have hw : WT 4 (Nd.typ 4 x []) := .of_typ (by decide) hx
  ⟨hw.fit, hw.posd 20, Nat.lt_of_le_of_lt (hw.cost 20) (by decide)⟩
def infS (a : Nat) : Nat := if fneg a = true then 18442240474082181120 else 9218868437227405312
def sameF (a b : Nat) : Bool := ((F64.order a a != some .eq) && (F64.order b b != some .eq)) || ((F64.order a b == some .eq) && ((F64.order a 0 != some .eq) || (F64.order (infS a) (infS b) == some .eq)))
theorem zero_of {a : Nat} (ha : a < 2 ^ 64) : (F64.order a 0 = some .eq) ↔ frung a = 0 := by
  rw [ford_eq ha (by decide)]
  have hn : frung a = 0 → fnan a = false := fun h => by rw [fnan, h]; decide
  have h0 : fnan 0 = false := by decide
  have hr : frung 0 = 0 := by decide
  constructor
  · rintro ⟨_, _, h | h⟩
    · rw [h, hr]
    · exact h.1
  · intro h
    exact ⟨hn h, h0, .inr ⟨h, hr⟩⟩
theorem divZ {a : Nat} (ha : a < 2 ^ 64) (h : F64.order a 0 = some .eq) : fltBin .quo .f64 4607182418800017408 a = some (.d (.flt .f64 (infS a))) := by
  rw [fltBin, fdiv_zero ha ((zero_of ha).1 h)]; rfl
theorem divZ2 {a b : Nat} (ha : a < 2 ^ 64) (hb : b < 2 ^ 64) (h : F64.order a b = some .eq) (h0 : F64.order a 0 = some .eq) : F64.order b 0 = some .eq := by
  rw [zero_of hb]
  rw [zero_of ha] at h0
  rcases ((ford_eq ha hb).1 h).2.2 with rfl | h
  · exact h0
  · exact h.2
theorem sameF_eq {a b : Nat} (ha : a < 2 ^ 64) (hb : b < 2 ^ 64) : sameF a b = (fbits a == fbits b) := by
  rw [fsame ha hb, sameF]
  congr 2
  have e1 : (F64.order a 0 != some .eq) = !(frung a == 0) := by
    rw [Bool.eq_iff_iff]
    simp only [bne_iff_ne, ne_eq, zero_of ha, Bool.not_eq_true', beq_eq_false_iff_ne]
  have e2 : (F64.order (infS a) (infS b) == some .eq) = (fneg a == fneg b) := by
    unfold infS
    cases fneg a <;> cases fneg b <;> decide +kernel
  rw [e1, e2]
theorem C3 (x : Nd) (hx : x.fit) (l : List Int) (hr : ∀ x ∈ l, -9223372036854775808 ≤ x ∧ x ≤ 9223372036854775807) (path : List Int) (hpr : ∀ p ∈ path, 0 ≤ p ∧ p ≤ 255)
    (f g e h : Int) (hf : 0 ≤ f ∧ f ≤ 18446744073709551615) (hg : 0 ≤ g ∧ g ≤ 18446744073709551615) (he : 0 ≤ e ∧ e ≤ 255) (hh : 0 ≤ h ∧ h ≤ 255) :
    Pure (PCalls Try.prog GG) 3 [x.av, .d (i64s l), .d (u8s path), .d (.int .u64 f), .d (.int .u64 g), .d (.int .u8 e), .d (.int .u8 h)] (b2 true) := by
  obtain ⟨a, ha, hA⟩ := C16 f e hf he
  obtain ⟨b, hb, hB⟩ := C16 g h hg hh
  intro st; refine pcalls_of k3 e3 (of_decide_eq_true rfl) ?_; dsimp only [c3]; refine pstartL ?_; intro t hL; generalize hQ : pfin _ _ = Q
  (refine gor hL ?_; (repeat (clear hL; intro t hL; refine gor hL ?_))); refine po_boxA hL ?_; clear hL; intro p7 t hL
  refine gor hL ?_; (repeat (clear hL; intro t hL; refine gor hL ?_))
  refine po_c0 (C12) ?_
  refine gor hL ?_; (repeat (clear hL; intro t hL; refine gor hL ?_))
  refine po_c0 (C13 x 4 hx (by decide)) ?_
  refine gor hL ?_; (repeat (clear hL; intro t hL; refine gor hL ?_))
  refine pcond_b rfl (fun hq => ?_) (fun hq => ?_)
  · refine gor hL ?_; (repeat (clear hL; intro t hL; refine gor hL ?_))
    rw [← hQ]
    exact pfin_pure rfl hL.le
  simp only [Bool.or_eq_false_iff, decide_eq_false_iff_not] at hq
  have hl : l.length < 2 ^ 40 := by omega
  have hp : path.length < 2 ^ 40 := by omega
  obtain ⟨t1, t2, t3⟩ := typ_le hx
  have hT := C15 x hx
  have hV := C14 l hl hr _ t1 t2 t3
  have hvf : (buildV l (Nd.typ 4 x [])).fitB 4 := buildM_few hr (.of_typ (by decide) hx) 20 0 0
  generalize Nd.typ 4 x [] = T at *
  generalize buildV l T = V at *
  have hta := C17 1 0 a (bs []) (by decide) path V (hvf.fit (by decide)) hp hpr
  have htb := C17 1 0 b (bs []) (by decide) path V (hvf.fit (by decide)) hp hpr
  have hs := VT.same_turned 0 a b (bs []) path V
  have hfa : (VT.turned 1 0 a (bs []) path V).fit := (VT.turned_fit (by decide) (by decide) ha (by decide) path V hvf).fit (by decide)
  generalize VT.turned 1 0 a (bs []) path V = X at *
  generalize VT.turned 1 0 b (bs []) path V = Y at *
  have hsm := C18 X Y hfa
  have hsr := C18 X X hfa
  rw [hs] at hsm
  rw [VT.same_refl] at hsr
  have hkey : sameF a b = (fbits a == fbits b) := sameF_eq ha hb
  simp only [VT.av_eq, KT.av_eq] at hta htb hsm hsr hT hV
  refine gor hL ?_; (repeat (clear hL; intro t hL; refine gor hL ?_))
  refine po_c0 (hT) ?_
  refine gor hL ?_; (repeat (clear hL; intro t hL; refine gor hL ?_))
  refine po_c0 (hV) ?_
  refine gor hL ?_; (repeat (clear hL; intro t hL; refine gor hL ?_))
  (refine gor hL ?_; (repeat (clear hL; intro t hL; refine gor hL ?_))); (with_reducible refine po_allocL hL rfl ?_); clear hL; intro p15 t hL
  refine gor hL ?_; (repeat (clear hL; intro t hL; refine gor hL ?_))
  refine po_c0 (hA) ?_
  refine gor hL ?_; (repeat (clear hL; intro t hL; refine gor hL ?_))
  refine po_c0 (hB) ?_
  refine gor hL ?_; (repeat (clear hL; intro t hL; refine gor hL ?_))
  refine po_cp (hta) ?_
  refine gor hL ?_; (repeat (clear hL; intro t hL; refine gor hL ?_))
  refine po_cp (htb) ?_
  refine gor hL ?_; (repeat (clear hL; intro t hL; refine gor hL ?_))
  (refine gor hL ?_; (repeat (clear hL; intro t hL; refine gor hL ?_))); (with_reducible refine po_allocL hL rfl ?_); clear hL; intro p18 t hL
  refine gor hL ?_; (repeat (clear hL; intro t hL; refine gor hL ?_))
  (refine gor hL ?_; (repeat (clear hL; intro t hL; refine gor hL ?_))); (with_reducible refine po_allocL hL rfl ?_); clear hL; intro p19 t hL
  refine gor hL ?_; (repeat (clear hL; intro t hL; refine gor hL ?_))
  refine po_g (v := .d (.flt .f64 (infS a))) gwt (fun hw => ?_) ?_
  · (try simp only [pvw] at hw)
    refine does_N rfl ?_
    simp +decide only [ev, pvc, hw]
    exact divZ ha (by simpa using hw.2)
  refine gor hL ?_; (repeat (clear hL; intro t hL; refine gor hL ?_))
  refine po_g (v := .d (.flt .f64 (infS b))) gwt (fun hw => ?_) ?_
  · (try simp only [pvw] at hw)
    refine does_N rfl ?_
    simp +decide only [ev, pvc, hw]
    exact divZ hb (divZ2 ha hb (by simpa using hw.1.2) (by simpa using hw.2))
  refine gor hL ?_; (repeat (clear hL; intro t hL; refine gor hL ?_))
  refine po_c0 (hsm) ?_
  refine gor hL ?_; (repeat (clear hL; intro t hL; refine gor hL ?_))
  ((with_reducible apply po_g); (· exact gwt); (· (intro hw; refine does_call0 ?_ (hsr); exact gargs hw)))
  refine gor hL ?_; (repeat (clear hL; intro t hL; refine gor hL ?_))
  rw [← hQ]
  refine pfin_pure (congrArg (fun z => some (b2 z)) ?_) hL.le
  have e : ∀ z : Bool, z = sameF a b → ((fbits a == fbits b) == z) = true := fun z hz => by rw [hz, hkey]; simp
  exact e _ (by simp [sameF])
end Go.Pv
