/- Functions of the program, by value. No condition. -/
import Derived.Test.YtoghanbjiikheaaP18
import Derived.Test.YtoghanbjiikheaaProg
namespace Go.Pv
open Go.Proofs
set_option maxRecDepth 100000

/-- slices.Index[[]int,int] -/
def c28 : PFun := ⟨
 (.seq (.region [⟨(.some 4), (.mov (.c (.d (.int .i64 0)))), .none⟩])
 (.seq (.seq (.region [⟨(.some 6), (.mov (.t 0)), .none⟩,
   ⟨(.some 7), (.len (.t 6)), .none⟩,
   ⟨(.some 8), (.mov (.c (.d (.int .i64 0)))), .none⟩])
 (.block 0 (.loop (.some [0, 1, 7, 8]) (.seq (.region [⟨(.some 9), (.bin .lss (.t 8) (.t 7)), .none⟩])
 (.seq (.cond (.t 9)
  .skip
  (.exit 0))
 (.seq (.block 1 (.seq (.region [⟨(.some 10), (.mov (.t 8)), .none⟩,
   ⟨(.some 5), (.mov (.t 10)), .none⟩])
 (.seq (.region [⟨(.some 11), (.mov (.t 1)), .none⟩,
   ⟨(.some 12), (.mov (.t 0)), .none⟩,
   ⟨(.some 13), (.mov (.t 5)), .none⟩,
   ⟨(.some 14), (.iaddr 1 (.t 12) (.t 13)), .none⟩,
   ⟨(.some 15), (.load .false 1 (.t 14) .false), .none⟩,
   ⟨(.some 16), (.bin .eql (.t 11) (.t 15)), .none⟩])
 (.cond (.t 16)
  (.seq (.region [⟨(.some 17), (.mov (.t 5)), .none⟩,
    ⟨(.some 4), (.mov (.t 17)), .none⟩])
  .ret)
  .skip))))
 (.region [⟨(.some 18), (.bin .add (.t 8) (.c (.d (.int .i64 1)))), .none⟩,
   ⟨(.some 8), (.mov (.t 18)), .none⟩])))))))
 (.seq (.region [⟨(.some 4), (.mov (.c (.d (.int .i64 (-1))))), .none⟩])
 .ret))),
 2, 19, [(.tmp 4)]⟩
/-- slices.Contains[[]int,int] -/
def c20 : PFun := ⟨
 (.seq (.region [⟨(.some 4), (.mov (.c (.d (.bool .false)))), .none⟩])
 (.seq (.region [⟨(.some 5), (.mov (.t 0)), .none⟩,
   ⟨(.some 6), (.mov (.t 1)), .none⟩,
   ⟨(.some 7), (.call 28 [(.t 5), (.t 6)]), .none⟩,
   ⟨(.some 8), (.bin .geq (.t 7) (.c (.d (.int .i64 0)))), .none⟩,
   ⟨(.some 4), (.mov (.t 8)), .none⟩])
 .ret)),
 2, 9, [(.tmp 4)]⟩
/-- (prompter/troupe.View).Most -/
def c10 : PFun := ⟨
 (.seq (.region [⟨(.some 2), (.box 2 (.t 0)), .none⟩,
   ⟨(.some 4), (.mov (.c (.d (.bool .false)))), .none⟩])
 (.seq (.region [⟨(.some 5), (.mov (.c (.d (.int .i64 0)))), .none⟩])
 (.seq (.seq (.region [⟨(.some 8), (.faddr 1 (.t 2)), .none⟩,
   ⟨(.some 9), (.load .false 1 (.t 8) .false), .none⟩,
   ⟨(.some 10), (.len (.t 9)), .none⟩,
   ⟨(.some 11), (.mov (.c (.d (.int .i64 0)))), .none⟩])
 (.block 0 (.loop (.some [1, 2, 5, 9, 10, 11]) (.seq (.region [⟨(.some 12), (.bin .lss (.t 11) (.t 10)), .none⟩])
 (.seq (.cond (.t 12)
  .skip
  (.exit 0))
 (.seq (.block 1 (.seq (.region [⟨(.some 13), (.iaddr 1 (.t 9) (.t 11)), .none⟩,
   ⟨(.some 14), (.load .false 1 (.t 13) .false), .none⟩,
   ⟨(.some 7), (.mov (.t 14)), .none⟩])
 (.seq (.region [⟨(.some 15), (.mov (.t 1)), .none⟩,
   ⟨(.some 16), (.mov (.t 7)), .none⟩,
   ⟨(.some 17), (.call 20 [(.t 15), (.t 16)]), .none⟩])
 (.cond (.t 17)
  (.region [⟨(.some 18), (.mov (.t 5)), .none⟩,
    ⟨(.some 19), (.bin .add (.t 18) (.c (.d (.int .i64 1)))), .none⟩,
    ⟨(.some 5), (.mov (.t 19)), .none⟩])
  .skip))))
 (.region [⟨(.some 20), (.bin .add (.t 11) (.c (.d (.int .i64 1)))), .none⟩,
   ⟨(.some 11), (.mov (.t 20)), .none⟩])))))))
 (.seq (.region [⟨(.some 21), (.mov (.t 5)), .none⟩,
   ⟨(.some 22), (.bin .mul (.c (.d (.int .i64 2))) (.t 21)), .none⟩,
   ⟨(.some 23), (.faddr 1 (.t 2)), .none⟩,
   ⟨(.some 24), (.load .false 1 (.t 23) .false), .none⟩,
   ⟨(.some 25), (.len (.t 24)), .none⟩,
   ⟨(.some 26), (.bin .gtr (.t 22) (.t 25)), .none⟩,
   ⟨(.some 4), (.mov (.t 26)), .none⟩])
 .ret)))),
 2, 27, [(.tmp 4)]⟩
/-- (prompter/troupe.View).Has -/
def c11 : PFun := ⟨
 (.seq (.region [⟨(.some 2), (.box 2 (.t 0)), .none⟩,
   ⟨(.some 4), (.mov (.c (.d (.bool .false)))), .none⟩])
 (.seq (.region [⟨(.some 5), (.faddr 1 (.t 2)), .none⟩,
   ⟨(.some 6), (.load .false 1 (.t 5) .false), .none⟩,
   ⟨(.some 7), (.mov (.t 1)), .none⟩,
   ⟨(.some 8), (.call 20 [(.t 6), (.t 7)]), .none⟩,
   ⟨(.some 4), (.mov (.t 8)), .none⟩])
 .ret)),
 2, 9, [(.tmp 4)]⟩
/-- prompter/prompterlaw14.Members -/
def c9 : PFun := ⟨
 (.seq (.region [⟨(.some 2), (.mov (.c (.full []))), .none⟩])
 (.seq (.region [⟨(.some 3), (.mov (.c (.full []))), .none⟩])
 (.seq (.seq (.region [⟨(.some 5), (.mov (.c (.d (.int .i64 0)))), .none⟩])
 (.block 0 (.loop (.some [0, 3, 5]) (.seq (.region [⟨(.some 6), (.bin .lss (.t 5) (.c (.d (.int .i64 16)))), .none⟩])
 (.seq (.cond (.t 6)
  .skip
  (.exit 0))
 (.seq (.block 1 (.seq (.region [⟨(.some 7), (.mov (.t 5)), .none⟩,
   ⟨(.some 4), (.mov (.t 7)), .none⟩])
 (.seq (.region [⟨(.some 8), (.mov (.t 0)), .none⟩,
   ⟨(.some 9), (.mov (.t 4)), .none⟩,
   ⟨(.some 10), (.bin .shr (.t 8) (.t 9)), .none⟩,
   ⟨(.some 11), (.bin .and (.t 10) (.c (.d (.int .u16 1)))), .none⟩,
   ⟨(.some 12), (.bin .eql (.t 11) (.c (.d (.int .u16 1)))), .none⟩])
 (.cond (.t 12)
  (.region [⟨(.some 13), (.mov (.t 3)), .none⟩,
    ⟨(.some 14), (.mov (.t 4)), .none⟩,
    ⟨(.some 15), (.bsl 1 [(.t 14)]), .none⟩,
    ⟨(.some 16), (.app 1 8 (.t 13) (.t 15)), .none⟩,
    ⟨(.some 3), (.mov (.t 16)), .none⟩])
  .skip))))
 (.region [⟨(.some 17), (.bin .add (.t 5) (.c (.d (.int .i64 1)))), .none⟩,
   ⟨(.some 5), (.mov (.t 17)), .none⟩])))))))
 (.seq (.seq (.region [⟨(.some 18), (.mov (.t 3)), .none⟩,
   ⟨(.some 19), (.len (.t 18)), .none⟩,
   ⟨(.some 20), (.bin .eql (.t 19) (.c (.d (.int .i64 0)))), .none⟩])
 (.cond (.t 20)
  (.region [⟨(.some 21), (.bsl 1 [(.c (.d (.int .i64 0)))]), .none⟩,
    ⟨(.some 3), (.mov (.t 21)), .none⟩])
  .skip))
 (.seq (.region [⟨(.some 22), (.mov (.t 3)), .none⟩,
   ⟨(.some 2), (.mov (.t 22)), .none⟩])
 .ret))))),
 1, 23, [(.tmp 2)]⟩
/-- prompter/troupe.Members -/
def c13 : PFun := ⟨
 (.seq (.region [⟨(.some 2), (.mov (.c (.d (.int .i64 0)))), .none⟩])
 (.seq (.seq (.region [⟨(.some 5), (.mov (.t 0)), .none⟩,
   ⟨(.some 6), (.len (.t 5)), .none⟩,
   ⟨(.some 7), (.bin .lss (.t 6) (.c (.d (.int .i64 1)))), .none⟩,
   ⟨(.some 8), (.mov (.t 7)), .none⟩,
   ⟨(.some 9), (.mov (.t 0)), (.some (8, .false))⟩,
   ⟨(.some 10), (.len (.t 9)), (.some (8, .false))⟩,
   ⟨(.some 11), (.bin .gtr (.t 10) (.c (.d (.int .i64 16)))), (.some (8, .false))⟩,
   ⟨(.some 12), (.pick (.t 8) (.c (.d (.bool .true))) (.t 11)), .none⟩])
 (.cond (.t 12)
  (.seq (.region [⟨(.some 2), (.mov (.c (.d (.int .i64 7)))), .none⟩])
  .ret)
  .skip))
 (.seq (.seq (.region [⟨(.some 13), (.mov (.t 0)), .none⟩,
   ⟨(.some 14), (.len (.t 13)), .none⟩,
   ⟨(.some 15), (.mov (.c (.d (.int .i64 0)))), .none⟩])
 (.block 0 (.loop (.some [0, 13, 14, 15]) (.seq (.region [⟨(.some 16), (.bin .lss (.t 15) (.t 14)), .none⟩])
 (.seq (.cond (.t 16)
  .skip
  (.exit 0))
 (.seq (.block 1 (.seq (.region [⟨(.some 17), (.mov (.t 15)), .none⟩,
   ⟨(.some 18), (.iaddr 1 (.t 13) (.t 15)), .none⟩,
   ⟨(.some 19), (.load .false 1 (.t 18) .false), .none⟩,
   ⟨(.some 3), (.mov (.t 17)), .none⟩,
   ⟨(.some 4), (.mov (.t 19)), .none⟩])
 (.seq (.region [⟨(.some 20), (.mov (.t 4)), .none⟩,
   ⟨(.some 21), (.bin .lss (.t 20) (.c (.d (.int .i64 0)))), .none⟩,
   ⟨(.some 22), (.mov (.t 21)), .none⟩,
   ⟨(.some 23), (.mov (.t 4)), (.some (22, .false))⟩,
   ⟨(.some 24), (.bin .geq (.t 23) (.c (.d (.int .i64 16)))), (.some (22, .false))⟩,
   ⟨(.some 25), (.pick (.t 22) (.c (.d (.bool .true))) (.t 24)), .none⟩,
   ⟨(.some 26), (.mov (.t 25)), .none⟩,
   ⟨(.some 27), (.mov (.t 3)), (.some (26, .false))⟩,
   ⟨(.some 28), (.bin .gtr (.t 27) (.c (.d (.int .i64 0)))), (.some (26, .false))⟩,
   ⟨(.some 29), (.mov (.t 28)), (.some (26, .false))⟩,
   ⟨(.some 30), (.mov (.t 4)), (.some (29, .true))⟩,
   ⟨(.some 31), (.mov (.t 0)), (.some (29, .true))⟩,
   ⟨(.some 32), (.mov (.t 3)), (.some (29, .true))⟩,
   ⟨(.some 33), (.bin .sub (.t 32) (.c (.d (.int .i64 1)))), (.some (29, .true))⟩,
   ⟨(.some 34), (.iaddr 1 (.t 31) (.t 33)), (.some (29, .true))⟩,
   ⟨(.some 35), (.load .false 1 (.t 34) .false), (.some (29, .true))⟩,
   ⟨(.some 36), (.bin .leq (.t 30) (.t 35)), (.some (29, .true))⟩,
   ⟨(.some 37), (.pick (.t 29) (.t 36) (.c (.d (.bool .false)))), (.some (26, .false))⟩,
   ⟨(.some 38), (.pick (.t 26) (.c (.d (.bool .true))) (.t 37)), .none⟩])
 (.cond (.t 38)
  (.seq (.region [⟨(.some 2), (.mov (.c (.d (.int .i64 2)))), .none⟩])
  .ret)
  .skip))))
 (.region [⟨(.some 39), (.bin .add (.t 15) (.c (.d (.int .i64 1)))), .none⟩,
   ⟨(.some 15), (.mov (.t 39)), .none⟩])))))))
 (.seq (.region [⟨(.some 2), (.mov (.c (.d (.int .i64 0)))), .none⟩])
 .ret)))),
 1, 40, [(.tmp 2)]⟩
/-- prompter/troupe.Same -/
def c17 : PFun := ⟨
 (.seq (.region [⟨(.some 2), (.box 2 (.t 0)), .none⟩,
   ⟨(.some 3), (.box 2 (.t 1)), .none⟩,
   ⟨(.some 4), (.mov (.c (.d (.bool .false)))), .none⟩])
 (.seq (.region [⟨(.some 5), (.faddr 0 (.t 2)), .none⟩,
   ⟨(.some 6), (.load .false 1 (.t 5) .false), .none⟩,
   ⟨(.some 7), (.faddr 0 (.t 3)), .none⟩,
   ⟨(.some 8), (.load .false 1 (.t 7) .false), .none⟩,
   ⟨(.some 9), (.bin .eql (.t 6) (.t 8)), .none⟩,
   ⟨(.some 10), (.mov (.t 9)), .none⟩,
   ⟨(.some 11), (.faddr 1 (.t 2)), (.some (10, .true))⟩,
   ⟨(.some 12), (.load .false 1 (.t 11) .false), (.some (10, .true))⟩,
   ⟨(.some 13), (.faddr 1 (.t 3)), (.some (10, .true))⟩,
   ⟨(.some 14), (.load .false 1 (.t 13) .false), (.some (10, .true))⟩,
   ⟨(.some 15), (.call 24 [(.t 12), (.t 14)]), (.some (10, .true))⟩,
   ⟨(.some 16), (.pick (.t 10) (.t 15) (.c (.d (.bool .false)))), .none⟩,
   ⟨(.some 4), (.mov (.t 16)), .none⟩])
 .ret)),
 2, 17, [(.tmp 4)]⟩
/-- slices.Equal[[]int,int] -/
def c24 : PFun := ⟨
 (.seq (.region [⟨(.some 4), (.mov (.c (.d (.bool .false)))), .none⟩])
 (.seq (.seq (.region [⟨(.some 6), (.mov (.t 0)), .none⟩,
   ⟨(.some 7), (.len (.t 6)), .none⟩,
   ⟨(.some 8), (.mov (.t 1)), .none⟩,
   ⟨(.some 9), (.len (.t 8)), .none⟩,
   ⟨(.some 10), (.bin .neq (.t 7) (.t 9)), .none⟩])
 (.cond (.t 10)
  (.seq (.region [⟨(.some 4), (.mov (.c (.d (.bool .false)))), .none⟩])
  .ret)
  .skip))
 (.seq (.seq (.region [⟨(.some 11), (.mov (.t 0)), .none⟩,
   ⟨(.some 12), (.len (.t 11)), .none⟩,
   ⟨(.some 13), (.mov (.c (.d (.int .i64 0)))), .none⟩])
 (.block 0 (.loop (.some [0, 1, 12, 13]) (.seq (.region [⟨(.some 14), (.bin .lss (.t 13) (.t 12)), .none⟩])
 (.seq (.cond (.t 14)
  .skip
  (.exit 0))
 (.seq (.block 1 (.seq (.region [⟨(.some 15), (.mov (.t 13)), .none⟩,
   ⟨(.some 5), (.mov (.t 15)), .none⟩])
 (.seq (.region [⟨(.some 16), (.mov (.t 0)), .none⟩,
   ⟨(.some 17), (.mov (.t 5)), .none⟩,
   ⟨(.some 18), (.iaddr 1 (.t 16) (.t 17)), .none⟩,
   ⟨(.some 19), (.load .false 1 (.t 18) .false), .none⟩,
   ⟨(.some 20), (.mov (.t 1)), .none⟩,
   ⟨(.some 21), (.mov (.t 5)), .none⟩,
   ⟨(.some 22), (.iaddr 1 (.t 20) (.t 21)), .none⟩,
   ⟨(.some 23), (.load .false 1 (.t 22) .false), .none⟩,
   ⟨(.some 24), (.bin .neq (.t 19) (.t 23)), .none⟩])
 (.cond (.t 24)
  (.seq (.region [⟨(.some 4), (.mov (.c (.d (.bool .false)))), .none⟩])
  .ret)
  .skip))))
 (.region [⟨(.some 25), (.bin .add (.t 13) (.c (.d (.int .i64 1)))), .none⟩,
   ⟨(.some 13), (.mov (.t 25)), .none⟩])))))))
 (.seq (.region [⟨(.some 4), (.mov (.c (.d (.bool .true)))), .none⟩])
 .ret)))),
 2, 26, [(.tmp 4)]⟩
theorem e28 : entered Try.prog 28 = true := by kernel_rfl
theorem k28 : compFun Try.prog (fun _ => 0) 28 = some c28.er := by kernel_rfl
theorem e20 : entered Try.prog 20 = true := by kernel_rfl
theorem k20 : compFun Try.prog (fun _ => 0) 20 = some c20.er := by kernel_rfl
theorem e10 : entered Try.prog 10 = true := by kernel_rfl
theorem k10 : compFun Try.prog (fun _ => 0) 10 = some c10.er := by kernel_rfl
theorem e11 : entered Try.prog 11 = true := by kernel_rfl
theorem k11 : compFun Try.prog (fun _ => 0) 11 = some c11.er := by kernel_rfl
theorem e9 : entered Try.prog 9 = true := by kernel_rfl
theorem k9 : compFun Try.prog (fun _ => 0) 9 = some c9.er := by kernel_rfl
theorem e13 : entered Try.prog 13 = true := by kernel_rfl
theorem k13 : compFun Try.prog (fun _ => 0) 13 = some c13.er := by kernel_rfl
theorem e17 : entered Try.prog 17 = true := by kernel_rfl
theorem k17 : compFun Try.prog (fun _ => 0) 17 = some c17.er := by kernel_rfl
theorem e24 : entered Try.prog 24 = true := by kernel_rfl
theorem k24 : compFun Try.prog (fun _ => 0) 24 = some c24.er := by kernel_rfl

/-- slices.Clone[[]int,int] -/
def c21 : PFun := ⟨
 (.seq (.region [⟨(.some 2), (.mov (.c (.full []))), .none⟩])
 (.seq (.seq (.region [⟨(.some 3), (.mov (.t 0)), .none⟩,
   ⟨(.some 4), (.isNil 1 .false (.t 3)), .none⟩])
 (.cond (.t 4)
  (.seq (.region [⟨(.some 2), (.mov (.c (.full []))), .none⟩])
  .ret)
  .skip))
 (.seq (.region [⟨(.some 5), (.bsl 1 []), .none⟩,
   ⟨(.some 6), (.mov (.t 0)), .none⟩,
   ⟨(.some 7), (.app 1 8 (.t 5) (.t 6)), .none⟩,
   ⟨(.some 2), (.mov (.t 7)), .none⟩])
 .ret))),
 1, 8, [(.tmp 2)]⟩
/-- (prompter/troupe.View).Next -/
def c12 : PFun := ⟨
 (.seq (.region [⟨(.some 2), (.box 2 (.t 0)), .none⟩,
   ⟨(.some 4), (.alloc [(.d (.int .i64 0)), (.full [])]), .none⟩,
   ⟨(.some 5), (.mov (.c (.d (.bool .false)))), .none⟩])
 (.seq (.seq (.region [⟨(.some 6), (.mov (.t 1)), .none⟩,
   ⟨(.some 7), (.callp 13 [(.t 6)]), .none⟩,
   ⟨(.some 8), (.bin .neq (.t 7) (.c (.d (.int .i64 0)))), .none⟩,
   ⟨(.some 9), (.mov (.t 8)), .none⟩,
   ⟨(.some 10), (.load .true 2 (.t 2) .false), (.some (9, .false))⟩,
   ⟨(.some 11), (.mov (.t 1)), (.some (9, .false))⟩,
   ⟨(.some 12), (.callp 10 [(.t 10), (.t 11)]), (.some (9, .false))⟩,
   ⟨(.some 13), (.not (.t 12)), (.some (9, .false))⟩,
   ⟨(.some 14), (.pick (.t 9) (.c (.d (.bool .true))) (.t 13)), .none⟩])
 (.cond (.t 14)
  (.seq (.region [⟨(.some 15), (.bld [(.d (.int .i64 0)), (.full [])] []), .none⟩,
    ⟨.none, (.store 2 (.t 4) (.t 15)), .none⟩,
    ⟨(.some 5), (.mov (.c (.d (.bool .false)))), .none⟩])
  .ret)
  .skip))
 (.seq (.region [⟨(.some 16), (.faddr 0 (.t 2)), .none⟩,
   ⟨(.some 17), (.load .false 1 (.t 16) .false), .none⟩,
   ⟨(.some 18), (.bin .add (.t 17) (.c (.d (.int .i64 1)))), .none⟩,
   ⟨(.some 19), (.mov (.t 1)), .none⟩,
   ⟨(.some 20), (.callp 21 [(.t 19)]), .none⟩,
   ⟨(.some 21), (.bld [(.d (.int .i64 0)), (.full [])] [(0, (1, (.t 18))), (1, (1, (.t 20)))]), .none⟩,
   ⟨.none, (.store 2 (.t 4) (.t 21)), .none⟩,
   ⟨(.some 5), (.mov (.c (.d (.bool .true)))), .none⟩])
 .ret))),
 2, 22, [(.cell 4 .true 2), (.tmp 5)]⟩
/-- prompter/prompterlaw14.Awake -/
def c8 : PFun := ⟨
 (.seq (.region [⟨(.some 0), (.mov (.c (.d (.bool .false)))), .none⟩])
 (.seq (.region [⟨(.some 4), (.bsl 1 [(.c (.d (.int .i64 0))), (.c (.d (.int .i64 1))), (.c (.d (.int .i64 2)))]), .none⟩,
   ⟨(.some 5), (.bld [(.d (.int .i64 0)), (.full [])] [(1, (1, (.t 4)))]), .none⟩,
   ⟨(.some 6), (.bsl 1 [(.c (.d (.int .i64 1))), (.c (.d (.int .i64 2))), (.c (.d (.int .i64 5)))]), .none⟩,
   ⟨(.some 7), (.callp 12 [(.t 5), (.t 6)]), .none⟩,
   ⟨(.some 3), (.mov (.t 7)), .none⟩,
   ⟨(.some 8), (.ext (.t 3) 0), .none⟩,
   ⟨(.some 9), (.ext (.t 3) 1), .none⟩,
   ⟨(.some 1), (.alloc [(.d (.int .i64 0)), (.full [])]), .none⟩,
   ⟨.none, (.store 2 (.t 1) (.t 8)), .none⟩,
   ⟨(.some 2), (.mov (.t 9)), .none⟩])
 (.seq (.region [⟨(.some 10), (.mov (.t 2)), .none⟩,
   ⟨(.some 11), (.mov (.t 10)), .none⟩,
   ⟨(.some 12), (.faddr 0 (.t 1)), (.some (11, .true))⟩,
   ⟨(.some 13), (.load .false 1 (.t 12) .false), (.some (11, .true))⟩,
   ⟨(.some 14), (.bin .eql (.t 13) (.c (.d (.int .i64 1)))), (.some (11, .true))⟩,
   ⟨(.some 15), (.pick (.t 11) (.t 14) (.c (.d (.bool .false)))), .none⟩,
   ⟨(.some 16), (.mov (.t 15)), .none⟩,
   ⟨(.some 17), (.faddr 1 (.t 1)), (.some (16, .true))⟩,
   ⟨(.some 18), (.load .false 1 (.t 17) .false), (.some (16, .true))⟩,
   ⟨(.some 19), (.len (.t 18)), (.some (16, .true))⟩,
   ⟨(.some 20), (.bin .eql (.t 19) (.c (.d (.int .i64 3)))), (.some (16, .true))⟩,
   ⟨(.some 21), (.pick (.t 16) (.t 20) (.c (.d (.bool .false)))), .none⟩,
   ⟨(.some 22), (.mov (.t 21)), .none⟩,
   ⟨(.some 23), (.load .true 2 (.t 1) .false), (.some (22, .true))⟩,
   ⟨(.some 24), (.callp 11 [(.t 23), (.c (.d (.int .i64 5)))]), (.some (22, .true))⟩,
   ⟨(.some 25), (.pick (.t 22) (.t 24) (.c (.d (.bool .false)))), .none⟩,
   ⟨(.some 0), (.mov (.t 25)), .none⟩])
 .ret))),
 0, 26, [(.tmp 0)]⟩
/-- prompter/prompterlaw14.TroupeHalves -/
def c3 : PFun := ⟨
 (.seq (.region [⟨(.some 6), (.mov (.c (.d (.bool .false)))), .none⟩])
 (.seq (.seq (.region [⟨(.some 14), (.call 8 []), .none⟩,
   ⟨(.some 15), (.not (.t 14)), .none⟩])
 (.cond (.t 15)
  (.seq (.region [⟨(.some 6), (.mov (.c (.d (.bool .false)))), .none⟩])
  .ret)
  .skip))
 (.seq (.region [⟨(.some 16), (.mov (.t 0)), .none⟩,
   ⟨(.some 17), (.call 9 [(.t 16)]), .none⟩,
   ⟨(.some 18), (.bld [(.d (.int .i64 0)), (.full [])] [(1, (1, (.t 17)))]), .none⟩,
   ⟨(.some 7), (.alloc [(.d (.int .i64 0)), (.full [])]), .none⟩,
   ⟨.none, (.store 2 (.t 7) (.t 18)), .none⟩])
 (.seq (.region [⟨(.some 19), (.mov (.t 1)), .none⟩,
   ⟨(.some 20), (.call 9 [(.t 19)]), .none⟩,
   ⟨(.some 21), (.mov (.t 2)), .none⟩,
   ⟨(.some 22), (.call 9 [(.t 21)]), .none⟩,
   ⟨(.some 8), (.mov (.t 20)), .none⟩,
   ⟨(.some 9), (.mov (.t 22)), .none⟩])
 (.seq (.seq (.region [⟨(.some 23), (.load .true 2 (.t 7) .false), .none⟩,
   ⟨(.some 24), (.mov (.t 8)), .none⟩,
   ⟨(.some 25), (.call 10 [(.t 23), (.t 24)]), .none⟩,
   ⟨(.some 26), (.not (.t 25)), .none⟩,
   ⟨(.some 27), (.mov (.t 26)), .none⟩,
   ⟨(.some 28), (.load .true 2 (.t 7) .false), (.some (27, .false))⟩,
   ⟨(.some 29), (.mov (.t 9)), (.some (27, .false))⟩,
   ⟨(.some 30), (.call 10 [(.t 28), (.t 29)]), (.some (27, .false))⟩,
   ⟨(.some 31), (.not (.t 30)), (.some (27, .false))⟩,
   ⟨(.some 32), (.pick (.t 27) (.c (.d (.bool .true))) (.t 31)), .none⟩])
 (.cond (.t 32)
  (.seq (.region [⟨(.some 6), (.mov (.c (.d (.bool .true)))), .none⟩])
  .ret)
  .skip))
 (.seq (.seq (.region [⟨(.some 33), (.mov (.t 8)), .none⟩,
   ⟨(.some 34), (.len (.t 33)), .none⟩,
   ⟨(.some 35), (.mov (.c (.d (.int .i64 0)))), .none⟩])
 (.block 0 (.loop (.some [7, 9, 33, 34, 35]) (.seq (.region [⟨(.some 36), (.bin .lss (.t 35) (.t 34)), .none⟩])
 (.seq (.cond (.t 36)
  .skip
  (.exit 0))
 (.seq (.block 1 (.seq (.region [⟨(.some 37), (.iaddr 1 (.t 33) (.t 35)), .none⟩,
   ⟨(.some 38), (.load .false 1 (.t 37) .false), .none⟩,
   ⟨(.some 11), (.mov (.t 38)), .none⟩])
 (.seq (.region [⟨(.some 39), (.mov (.t 9)), .none⟩,
   ⟨(.some 40), (.len (.t 39)), .none⟩,
   ⟨(.some 41), (.mov (.c (.d (.int .i64 0)))), .none⟩])
 (.block 2 (.loop (.some [7, 9, 11, 33, 34, 35, 39, 40, 41]) (.seq (.region [⟨(.some 42), (.bin .lss (.t 41) (.t 40)), .none⟩])
 (.seq (.cond (.t 42)
  .skip
  (.exit 2))
 (.seq (.block 3 (.seq (.region [⟨(.some 43), (.iaddr 1 (.t 39) (.t 41)), .none⟩,
   ⟨(.some 44), (.load .false 1 (.t 43) .false), .none⟩,
   ⟨(.some 13), (.mov (.t 44)), .none⟩])
 (.seq (.region [⟨(.some 45), (.mov (.t 11)), .none⟩,
   ⟨(.some 46), (.mov (.t 13)), .none⟩,
   ⟨(.some 47), (.bin .eql (.t 45) (.t 46)), .none⟩,
   ⟨(.some 48), (.mov (.t 47)), .none⟩,
   ⟨(.some 49), (.load .true 2 (.t 7) .false), (.some (48, .true))⟩,
   ⟨(.some 50), (.mov (.t 11)), (.some (48, .true))⟩,
   ⟨(.some 51), (.call 11 [(.t 49), (.t 50)]), (.some (48, .true))⟩,
   ⟨(.some 52), (.pick (.t 48) (.t 51) (.c (.d (.bool .false)))), .none⟩])
 (.cond (.t 52)
  (.seq (.region [⟨(.some 6), (.mov (.c (.d (.bool .true)))), .none⟩])
  .ret)
  .skip))))
 (.region [⟨(.some 53), (.bin .add (.t 41) (.c (.d (.int .i64 1)))), .none⟩,
   ⟨(.some 41), (.mov (.t 53)), .none⟩])))))))))
 (.region [⟨(.some 54), (.bin .add (.t 35) (.c (.d (.int .i64 1)))), .none⟩,
   ⟨(.some 35), (.mov (.t 54)), .none⟩])))))))
 (.seq (.region [⟨(.some 6), (.mov (.c (.d (.bool .false)))), .none⟩])
 .ret))))))),
 3, 55, [(.tmp 6)]⟩
theorem e21 : entered Try.prog 21 = true := by kernel_rfl
theorem k21 : compFun Try.prog (fun _ => 0) 21 = some c21.er := by kernel_rfl
theorem e12 : entered Try.prog 12 = true := by kernel_rfl
theorem k12 : compFun Try.prog (fun _ => 1) 12 = some c12.er := by kernel_rfl
theorem e8 : entered Try.prog 8 = true := by kernel_rfl
theorem k8 : compFun Try.prog (fun _ => 1) 8 = some c8.er := by kernel_rfl
theorem e3 : entered Try.prog 3 = true := by kernel_rfl
theorem k3 : compFun Try.prog (fun _ => 0) 3 = some c3.er := by kernel_rfl

def ints (l : List Int) : Dat := .sl (l.map fun n => [.int .i64 n])
def GG : Glob := fun _ => none


theorem eq_i64 {a b : Int} (h : a = b) : i64 a = i64 b := by rw [h]


theorem iaddr_ints {s : Slots} {a b : Arg} {l : List Int} {k : Nat} (ha : a.ev GG s = .d (ints l)) (hb : b.ev GG s = i64 k) (hk : k < l.length) : ev GG s (.iaddr 1 a b) = some (.elt [.int .i64 l[k]]) := by
  simp [ev, ha, hb, i64, ints, AV.rows?, hk]

theorem idxOf_first {l : List Int} {x : Int} {k : Nat} (hk : k < l.length) (hx : x = l[k]) (h : x ∉ l.take k) : l.idxOf x = k := by
  have e : l = l.take k ++ x :: l.drop (k + 1) := by rw [hx, List.getElem_cons_drop, List.take_append_drop]
  have hlen : (l.take k).length = k := by rw [List.length_take]; omega
  rw [e, List.idxOf_append, if_neg h]
  simp [hlen]
theorem notMem_take_succ {l : List Int} {x : Int} {k : Nat} (hk : k < l.length) (hx : x ≠ l[k]) (h : x ∉ l.take k) : x ∉ l.take (k + 1) := by
  rw [List.take_succ_eq_append_getElem hk, List.mem_append, List.mem_singleton]
  rintro (e | e)
  · exact h e
  · exact hx e

theorem C28 (l : List Int) (x : Int) (hl : l.length < 2 ^ 62) : Pure (PCalls Try.prog GG) 28 [.d (ints l), .d (.int .i64 x)] (i64 (if x ∈ l then (l.idxOf x : Int) else -1)) := by
  intro st
  refine pcalls_of k28 e28 (of_decide_eq_true rfl) ?_
  dsimp only [c28]
  refine pseq (pregion (po rfl rfl (pnil (pnext ?_))))
  refine pseq (pseq (pregion (po rfl rfl (po rfl (v := i64 l.length) (by simp [ev, Arg.ev, put, pinit, ints, AV.rows?]) (po rfl rfl (pnil (pnext ?_)))))))
  let S : Nat → Slots := fun k => put (put (put (put (fun _ => .undef) (some 8) (i64 k)) (some 7) (i64 l.length)) (some 1) (.d (.int .i64 x))) (some 0) (.d (ints l))
  refine prange l.length (by omega) S (fun _ => st) (fun k => x ∉ l.take k) (by simp) rfl rfl (fun k => rfl) (fun k => rfl) ?_ ?_
  · intro hI
    rw [List.take_length] at hI
    refine pnext (pseq (pregion (po rfl rfl (pnil (pnext ?_)))))
    refine pfin_pure ?_ (.refl _)
    rw [if_neg hI]; rfl
  · intro k hk hI
    refine pblock (pseq (pregion (po rfl rfl (po rfl rfl (pnil (pnext ?_))))))
    refine pseq (pregion (po rfl rfl (po rfl rfl (po rfl rfl (po rfl (iaddr_ints rfl rfl hk) (po_loadE rfl rfl (po rfl (v := b2 (x == l[k])) rfl (pnil (pnext ?_)))))))))
    refine pcond (v := x == l[k]) rfl (fun hc => ?_) (fun hc => ?_)
    · have hx : x = l[k] := by simpa using hc
      refine pseq (pregion (po rfl rfl (po rfl rfl (pnil (pnext ?_)))))
      refine pfin_pure ?_ (.refl _)
      rw [if_pos (hx ▸ List.getElem_mem hk), idxOf_first hk hx hI]; rfl
    · have hx : x ≠ l[k] := by simpa using hc
      refine pskip ⟨?_, rfl, rfl, rfl⟩
      exact notMem_take_succ hk hx hI


theorem C20 (l : List Int) (x : Int) (hl : l.length < 2 ^ 62) : Pure (PCalls Try.prog GG) 20 [.d (ints l), .d (.int .i64 x)] (b2 (decide (x ∈ l))) := by
  intro st
  refine pcalls_of k20 e20 (of_decide_eq_true rfl) ?_
  dsimp only [c20]
  refine pseq (pregion (po rfl rfl (pnil (pnext ?_))))
  refine pseq (pregion (po rfl rfl (po rfl rfl (po_call rfl (C28 l x hl) (fun _ _ h => False.elim h) (po rfl (v := b2 (decide (x ∈ l))) ?_ (po rfl rfl (pnil (pnext ?_))))))))
  · show some (b2 (decide ((if x ∈ l then (l.idxOf x : Int) else -1) ≥ 0))) = some (b2 (decide (x ∈ l)))
    by_cases h : x ∈ l
    · simp [h]
    · simp [h]
  · exact pfin_pure rfl (.refl _)

def view (num : Int) (l : List Int) : AV := .agg [.d (.int .i64 num), .d (ints l)]
theorem C11 (num : Int) (l : List Int) (x : Int) (hl : l.length < 2 ^ 62) : Pure (PCalls Try.prog GG) 11 [view num l, .d (.int .i64 x)] (b2 (decide (x ∈ l))) := by
  intro st
  refine pcalls_of k11 e11 (of_decide_eq_true rfl) ?_
  dsimp only [c11]
  refine pseq (pregion (po_box rfl rfl fun b hb => (po rfl rfl (pnil (pnext ?_)))))
  refine pseq (pregion (po rfl rfl (po_load rfl (if_pos rfl) rfl (po rfl rfl (po_call rfl (C20 l x hl) (fun _ _ h => False.elim h) (po rfl rfl (pnil (pnext ?_))))))))
  exact pfin_pure rfl ((St.le.refl _).setBox _ hb.1)

def cnt (ms l : List Int) : Nat := (ms.filter fun m => decide (m ∈ l)).length
theorem cnt_succ {ms l : List Int} {k : Nat} (hk : k < ms.length) : cnt (ms.take (k + 1)) l = cnt (ms.take k) l + (if ms[k] ∈ l then 1 else 0) := by
  rw [List.take_succ_eq_append_getElem hk]
  simp only [cnt, List.filter_append, List.length_append]
  split <;> simp [*]
theorem cnt_le (ms l : List Int) : cnt ms l ≤ ms.length := List.length_filter_le _ _

theorem C10 (num : Int) (ms l : List Int) (hm : ms.length < 2 ^ 60) (hl : l.length < 2 ^ 62) : Pure (PCalls Try.prog GG) 10 [view num ms, .d (ints l)] (b2 (decide ((ms.length : Int) < 2 * cnt ms l))) := by
  intro st
  refine pcalls_of k10 e10 (of_decide_eq_true rfl) ?_
  dsimp only [c10]
  refine pseq (pregion (po_box rfl rfl fun b hb => (po rfl rfl (pnil (pnext ?_)))))
  refine pseq (pregion (po rfl rfl (pnil (pnext ?_))))
  refine pseq (pseq (pregion (po rfl rfl (po_load rfl (if_pos rfl) rfl (po rfl (v := i64 ms.length) (by simp [ev, Arg.ev, put, ints, AV.rows?]) (po rfl rfl (pnil (pnext ?_))))))))
  let S : Nat → Slots := fun k => put (put (put (put (put (put (fun _ => .undef) (some 11) (i64 k)) (some 10) (i64 ms.length)) (some 9) (.d (ints ms))) (some 5) (i64 (cnt (ms.take k) l))) (some 2) (ptrAt b)) (some 1) (.d (ints l))
  refine prange ms.length (by omega) S (fun _ => st.setBox b [.d (.int .i64 num), .d (ints ms)]) (fun k => True) trivial rfl rfl (fun k => rfl) (fun k => rfl) ?_ ?_
  · intro _
    have hle := cnt_le ms l
    have hc : IntKind.i64.wrap (2 * (cnt (ms.take ms.length) l : Int)) = 2 * (cnt ms l : Int) := by rw [List.take_length]; exact IntWalk.i64_in _ (by omega)
    refine pnext (pseq (pregion (po rfl rfl (po rfl (v := i64 (2 * (cnt ms l : Int))) (by rw [← hc]; rfl) (po rfl rfl (po_load rfl (if_pos rfl) rfl (po rfl (v := i64 ms.length) (by simp [ev, Arg.ev, put, ints, AV.rows?]) (po rfl rfl (po rfl rfl (pnil (pnext ?_)))))))))))
    exact pfin_pure rfl ((St.le.refl _).setBox _ hb.1)
  · intro k hk _
    refine pblock (pseq (pregion (po rfl (iaddr_ints rfl rfl hk) (po_loadE rfl rfl (po rfl rfl (pnil (pnext ?_)))))))
    refine pseq (pregion (po rfl rfl (po rfl rfl (po_call rfl (C20 l ms[k] hl) (fun _ _ h => False.elim h) (pnil (pnext ?_))))))
    have hs := cnt_succ (l := l) hk
    have hle := cnt_le (ms.take k) l
    rw [List.length_take] at hle
    refine pcond (v := decide (ms[k] ∈ l)) rfl (fun hc => ?_) (fun hc => ?_)
    · have hc : ms[k] ∈ l := by simpa using hc
      rw [if_pos hc] at hs
      have hw : IntKind.i64.wrap ((cnt (ms.take k) l : Int) + 1) = (cnt (ms.take (k + 1)) l : Int) := by rw [hs]; exact IntWalk.i64_in _ (by omega)
      refine pregion (po rfl rfl (po rfl (v := i64 (cnt (ms.take (k + 1)) l)) (by rw [← hw]; rfl) (po rfl rfl (pnil ⟨trivial, rfl, rfl, rfl⟩))))
    · have hc : ms[k] ∉ l := by simpa using hc
      rw [if_neg hc] at hs
      refine pskip ⟨trivial, rfl, rfl, ?_⟩
      show _ = S (k + 1)
      simp only [S, hs]
      rfl


theorem len_of {G : Glob} {s : Slots} {a : Arg} {x : AV} (ha : a.ev G s = x) {rows : List (List Dat)} (h : x.rows? = some rows) : ev G s (.len a) = some (i64 rows.length) := by
  simp only [ev, ha]
  cases x <;> simp only [AV.rows?] at h <;> (try (cases h; done)) <;> simp [AV.rows?, h]
theorem len_ints {G : Glob} {s : Slots} {a : Arg} {l : List Int} (ha : a.ev G s = .d (ints l)) : ev G s (.len a) = some (i64 l.length) := by
  rw [len_of ha (rows := l.map fun n => [.int .i64 n]) rfl, List.length_map]
theorem po_lenI {G : Glob} {C : CallsP} {x : Arg} {d : Option Nat} {rest : List POper} {K : X → Prop} {s : Slots} {m : Mx} {l : List Int} (hx : x.ev G s = .d (ints l)) (h : pops G C rest K ⟨put s d (i64 l.length), m⟩) :
    pops G C (⟨d, .len x, none⟩ :: rest) K ⟨s, m⟩ := po rfl (len_ints hx) h
theorem bt {p : Prop} [Decidable p] (h : p) : some (b2 (decide p)) = some (b2 true) := by simp [h]
theorem bf {p : Prop} [Decidable p] (h : ¬ p) : some (b2 (decide p)) = some (b2 false) := by simp [h]

def bitOf (a : Int) (k : Nat) : Bool := IntKind.u16.wrap ((BitVec.ofInt 16 (a.fdiv (2 ^ min (k : Int).toNat 16)) &&& BitVec.ofInt 16 1).toNat) == 1
def memb0 (a : Int) (k : Nat) : List Int := ((List.range k).filter (bitOf a)).map fun (n : Nat) => (n : Int)
def memb (a : Int) : List Int := if memb0 a 16 = [] then [0] else memb0 a 16
theorem memb0_succ (a : Int) (k : Nat) : memb0 a (k + 1) = memb0 a k ++ (if bitOf a k = true then [(k : Int)] else []) := by
  simp only [memb0, List.range_succ, List.filter_append, List.map_append]
  congr 1
  split <;> simp [*]
theorem memb0_length (a : Int) (k : Nat) : (memb0 a k).length ≤ k := by
  simp only [memb0, List.length_map]
  exact Nat.le_trans (List.length_filter_le _ _) (by simp)
theorem memb_length (a : Int) : (memb a).length ≤ 16 ∧ 0 < (memb a).length := by
  unfold memb
  split
  · simp
  · rename_i h; exact ⟨memb0_length a 16, List.length_pos_iff.2 h⟩
def irows (l : List Int) : List (List Dat) := l.map fun n => [.int .i64 n]

theorem C9 (a : Int) : Pure (PCalls Try.prog GG) 9 [.d (.int .u16 a)] (.d (ints (memb a))) := by
  intro st
  refine pcalls_of k9 e9 (of_decide_eq_true rfl) ?_
  dsimp only [c9]
  repeat (first | (with_reducible refine po_movt ?_) | (with_reducible refine po_movc ?_) | ((with_reducible apply po_lenI); · rfl) | ((with_reducible apply po); (· rfl); (· rfl)) | ((with_reducible refine po_yt ?_ ?_); · (first | with_reducible rfl | (simp +decide only [pvl]; done))) | ((with_reducible refine po_yf ?_ ?_); · (first | with_reducible rfl | (simp +decide only [pvl]; done))) | ((with_reducible refine po_nt ?_ ?_); · (first | with_reducible rfl | (simp +decide only [pvl]; done))) | ((with_reducible refine po_nf ?_ ?_); · (first | with_reducible rfl | (simp +decide only [pvl]; done))) | ((with_reducible refine po_not' ?_ ?_); · (first | with_reducible rfl | (simp +decide only [pvl]; done))) | ((with_reducible refine pcond_tt ?_ ?_); · (first | with_reducible rfl | (simp +decide only [pvl]; done))) | ((with_reducible refine pcond_ff ?_ ?_); · (first | with_reducible rfl | (simp +decide only [pvl]; done))) | ((with_reducible apply po_loadE); (· rfl); (· rfl)) | ((with_reducible apply po_load); (· rfl); (· first | exact if_pos rfl | (refine (if_neg ?_).trans (if_pos rfl); assumption) | (refine (if_neg ?_).trans ((if_neg ?_).trans (if_pos rfl)) <;> assumption)); (· rfl)) | ((with_reducible apply po_store); (· rfl); (· rfl); (· first | exact if_pos rfl | (refine (if_neg ?_).trans (if_pos rfl); assumption) | (refine (if_neg ?_).trans ((if_neg ?_).trans (if_pos rfl)) <;> assumption)); (· exact ⟨rfl, rfl⟩); (· exact of_decide_eq_true rfl); (· rfl); (· exact fun _ _ h => False.elim h)) | (with_reducible refine pnil ?_) | ((with_reducible refine pnext ?_); try simp +decide only [pvl]) | ((fail_if_success (with_reducible refine pseqk ?_)); (with_reducible refine pseq ?_)) | ((with_reducible refine pkeep ?_); (try simp +decide only [pvl, pvt])) | (with_reducible refine pregion ?_) | (with_reducible refine pskip ?_) | (with_reducible refine pret_ ?_) | (with_reducible refine pnext_ret ?_) | (with_reducible refine pexit_ ?_) | (with_reducible refine pnext_exit ?_) | (with_reducible refine pblock_ret ?_) | (with_reducible refine pblock_normal ?_) | (with_reducible refine pexit_in ?_) | (with_reducible refine pexit_out rfl ?_))
  refine prange' 16 (by omega) (fun k s t => ∃ v, s = put (put (put (fun _ => .undef) (some 5) (i64 k)) (some 3) v) (some 0) (.d (.int .u16 a)) ∧ Vec st t v (irows (memb0 a k)) 1) ⟨_, rfl, .inl ⟨rfl, rfl⟩⟩ ?_ (fun k s t _ _ => rfl) ?_ ?_
  · rintro k s t _ ⟨v, rfl, _⟩; rfl
  · rintro s t ⟨v, rfl, hv⟩
    refine pnext (pseq (pseq (pregion (po rfl rfl (po rfl (len_of rfl hv.rows) ?_)))))
    have hlen : (irows (memb0 a 16)).length = (memb0 a 16).length := by simp [irows]
    by_cases h : memb0 a 16 = []
    · refine po rfl (v := b2 true) ?_ (pnil (pnext (pcond_t rfl ?_)))
      · show some (b2 (decide _)) = _; simp [irows, h]
      repeat (first | (with_reducible refine po_movt ?_) | (with_reducible refine po_movc ?_) | ((with_reducible apply po_lenI); · rfl) | ((with_reducible apply po); (· rfl); (· rfl)) | ((with_reducible refine po_yt ?_ ?_); · (first | with_reducible rfl | (simp +decide only [pvl]; done))) | ((with_reducible refine po_yf ?_ ?_); · (first | with_reducible rfl | (simp +decide only [pvl]; done))) | ((with_reducible refine po_nt ?_ ?_); · (first | with_reducible rfl | (simp +decide only [pvl]; done))) | ((with_reducible refine po_nf ?_ ?_); · (first | with_reducible rfl | (simp +decide only [pvl]; done))) | ((with_reducible refine po_not' ?_ ?_); · (first | with_reducible rfl | (simp +decide only [pvl]; done))) | ((with_reducible refine pcond_tt ?_ ?_); · (first | with_reducible rfl | (simp +decide only [pvl]; done))) | ((with_reducible refine pcond_ff ?_ ?_); · (first | with_reducible rfl | (simp +decide only [pvl]; done))) | ((with_reducible apply po_loadE); (· rfl); (· rfl)) | ((with_reducible apply po_load); (· rfl); (· first | exact if_pos rfl | (refine (if_neg ?_).trans (if_pos rfl); assumption) | (refine (if_neg ?_).trans ((if_neg ?_).trans (if_pos rfl)) <;> assumption)); (· rfl)) | ((with_reducible apply po_store); (· rfl); (· rfl); (· first | exact if_pos rfl | (refine (if_neg ?_).trans (if_pos rfl); assumption) | (refine (if_neg ?_).trans ((if_neg ?_).trans (if_pos rfl)) <;> assumption)); (· exact ⟨rfl, rfl⟩); (· exact of_decide_eq_true rfl); (· rfl); (· exact fun _ _ h => False.elim h)) | (with_reducible refine pnil ?_) | ((with_reducible refine pnext ?_); try simp +decide only [pvl]) | ((fail_if_success (with_reducible refine pseqk ?_)); (with_reducible refine pseq ?_)) | ((with_reducible refine pkeep ?_); (try simp +decide only [pvl, pvt])) | (with_reducible refine pregion ?_) | (with_reducible refine pskip ?_) | (with_reducible refine pret_ ?_) | (with_reducible refine pnext_ret ?_) | (with_reducible refine pexit_ ?_) | (with_reducible refine pnext_exit ?_) | (with_reducible refine pblock_ret ?_) | (with_reducible refine pblock_normal ?_) | (with_reducible refine pexit_in ?_) | (with_reducible refine pexit_out rfl ?_))
      refine pfin_weak rfl ?_ hv.le
      simp [memb, h]; rfl
    · refine po rfl (v := b2 false) ?_ (pnil (pnext (pcond_f rfl ?_)))
      · show some (b2 (decide _)) = _; simp [irows, h]
      repeat (first | (with_reducible refine po_movt ?_) | (with_reducible refine po_movc ?_) | ((with_reducible apply po_lenI); · rfl) | ((with_reducible apply po); (· rfl); (· rfl)) | ((with_reducible refine po_yt ?_ ?_); · (first | with_reducible rfl | (simp +decide only [pvl]; done))) | ((with_reducible refine po_yf ?_ ?_); · (first | with_reducible rfl | (simp +decide only [pvl]; done))) | ((with_reducible refine po_nt ?_ ?_); · (first | with_reducible rfl | (simp +decide only [pvl]; done))) | ((with_reducible refine po_nf ?_ ?_); · (first | with_reducible rfl | (simp +decide only [pvl]; done))) | ((with_reducible refine po_not' ?_ ?_); · (first | with_reducible rfl | (simp +decide only [pvl]; done))) | ((with_reducible refine pcond_tt ?_ ?_); · (first | with_reducible rfl | (simp +decide only [pvl]; done))) | ((with_reducible refine pcond_ff ?_ ?_); · (first | with_reducible rfl | (simp +decide only [pvl]; done))) | ((with_reducible apply po_loadE); (· rfl); (· rfl)) | ((with_reducible apply po_load); (· rfl); (· first | exact if_pos rfl | (refine (if_neg ?_).trans (if_pos rfl); assumption) | (refine (if_neg ?_).trans ((if_neg ?_).trans (if_pos rfl)) <;> assumption)); (· rfl)) | ((with_reducible apply po_store); (· rfl); (· rfl); (· first | exact if_pos rfl | (refine (if_neg ?_).trans (if_pos rfl); assumption) | (refine (if_neg ?_).trans ((if_neg ?_).trans (if_pos rfl)) <;> assumption)); (· exact ⟨rfl, rfl⟩); (· exact of_decide_eq_true rfl); (· rfl); (· exact fun _ _ h => False.elim h)) | (with_reducible refine pnil ?_) | ((with_reducible refine pnext ?_); try simp +decide only [pvl]) | ((fail_if_success (with_reducible refine pseqk ?_)); (with_reducible refine pseq ?_)) | ((with_reducible refine pkeep ?_); (try simp +decide only [pvl, pvt])) | (with_reducible refine pregion ?_) | (with_reducible refine pskip ?_) | (with_reducible refine pret_ ?_) | (with_reducible refine pnext_ret ?_) | (with_reducible refine pexit_ ?_) | (with_reducible refine pnext_exit ?_) | (with_reducible refine pblock_ret ?_) | (with_reducible refine pblock_normal ?_) | (with_reducible refine pexit_in ?_) | (with_reducible refine pexit_out rfl ?_))
      refine pfin_weak rfl ?_ hv.le
      show v.weak = _
      rw [hv.weak]
      simp [memb, h]; rfl
  · rintro k hk s t ⟨v, rfl, hv⟩
    refine pblock ?_
    repeat (first | (with_reducible refine po_movt ?_) | (with_reducible refine po_movc ?_) | ((with_reducible apply po_lenI); · rfl) | ((with_reducible apply po); (· rfl); (· rfl)) | ((with_reducible refine po_yt ?_ ?_); · (first | with_reducible rfl | (simp +decide only [pvl]; done))) | ((with_reducible refine po_yf ?_ ?_); · (first | with_reducible rfl | (simp +decide only [pvl]; done))) | ((with_reducible refine po_nt ?_ ?_); · (first | with_reducible rfl | (simp +decide only [pvl]; done))) | ((with_reducible refine po_nf ?_ ?_); · (first | with_reducible rfl | (simp +decide only [pvl]; done))) | ((with_reducible refine po_not' ?_ ?_); · (first | with_reducible rfl | (simp +decide only [pvl]; done))) | ((with_reducible refine pcond_tt ?_ ?_); · (first | with_reducible rfl | (simp +decide only [pvl]; done))) | ((with_reducible refine pcond_ff ?_ ?_); · (first | with_reducible rfl | (simp +decide only [pvl]; done))) | ((with_reducible apply po_loadE); (· rfl); (· rfl)) | ((with_reducible apply po_load); (· rfl); (· first | exact if_pos rfl | (refine (if_neg ?_).trans (if_pos rfl); assumption) | (refine (if_neg ?_).trans ((if_neg ?_).trans (if_pos rfl)) <;> assumption)); (· rfl)) | ((with_reducible apply po_store); (· rfl); (· rfl); (· first | exact if_pos rfl | (refine (if_neg ?_).trans (if_pos rfl); assumption) | (refine (if_neg ?_).trans ((if_neg ?_).trans (if_pos rfl)) <;> assumption)); (· exact ⟨rfl, rfl⟩); (· exact of_decide_eq_true rfl); (· rfl); (· exact fun _ _ h => False.elim h)) | (with_reducible refine pnil ?_) | ((with_reducible refine pnext ?_); try simp +decide only [pvl]) | ((fail_if_success (with_reducible refine pseqk ?_)); (with_reducible refine pseq ?_)) | ((with_reducible refine pkeep ?_); (try simp +decide only [pvl, pvt])) | (with_reducible refine pregion ?_) | (with_reducible refine pskip ?_) | (with_reducible refine pret_ ?_) | (with_reducible refine pnext_ret ?_) | (with_reducible refine pexit_ ?_) | (with_reducible refine pnext_exit ?_) | (with_reducible refine pblock_ret ?_) | (with_reducible refine pblock_normal ?_) | (with_reducible refine pexit_in ?_) | (with_reducible refine pexit_out rfl ?_))
    refine pcond (v := bitOf a k) rfl (fun hc => ?_) (fun hc => ?_)
    · refine pregion (po rfl rfl (po rfl rfl (po rfl rfl (po_app rfl hv rfl ?_ ?_ ?_ ?_))))
      · simp [irows]
      · simp
      · have := memb0_length a k; simp [irows]; omega
      · intro v' t' hv'
        refine po rfl rfl (pnil ⟨rfl, v', rfl, ?_⟩)
        rw [memb0_succ, if_pos hc]
        simpa [irows, setSt_st] using hv'
    · refine pskip ⟨rfl, v, rfl, ?_⟩
      rw [memb0_succ, hc]
      simpa [irows] using hv


/-- troupe.Members. -/
def bad3 (x y : Int) (i : Nat) : Bool := decide (x < 0) || decide (x ≥ 16) || (decide (i > 0) && decide (x ≤ y))
def badAt (l : List Int) (i : Nat) : Bool := bad3 (l.getD i 0) (l.getD (i - 1) 0) i
def okM (l : List Int) : Int := if l.length < 1 ∨ l.length > 16 then 7 else if ∀ i, i < l.length → badAt l i = false then 0 else 2

theorem C13 (l : List Int) (hl : l.length < 2 ^ 62) : Pure (PCalls Try.prog GG) 13 [.d (ints l)] (i64 (okM l)) := by
  intro st
  refine pcalls_of k13 e13 (of_decide_eq_true rfl) ?_
  dsimp only [c13]
  repeat (first | (with_reducible refine po_movt ?_) | (with_reducible refine po_movc ?_) | ((with_reducible apply po_lenI); · rfl) | ((with_reducible apply po); (· rfl); (· rfl)) | ((with_reducible refine po_yt ?_ ?_); · (first | with_reducible rfl | (simp +decide only [pvl]; done))) | ((with_reducible refine po_yf ?_ ?_); · (first | with_reducible rfl | (simp +decide only [pvl]; done))) | ((with_reducible refine po_nt ?_ ?_); · (first | with_reducible rfl | (simp +decide only [pvl]; done))) | ((with_reducible refine po_nf ?_ ?_); · (first | with_reducible rfl | (simp +decide only [pvl]; done))) | ((with_reducible refine po_not' ?_ ?_); · (first | with_reducible rfl | (simp +decide only [pvl]; done))) | ((with_reducible refine pcond_tt ?_ ?_); · (first | with_reducible rfl | (simp +decide only [pvl]; done))) | ((with_reducible refine pcond_ff ?_ ?_); · (first | with_reducible rfl | (simp +decide only [pvl]; done))) | ((with_reducible apply po_loadE); (· rfl); (· rfl)) | ((with_reducible apply po_load); (· rfl); (· first | exact if_pos rfl | (refine (if_neg ?_).trans (if_pos rfl); assumption) | (refine (if_neg ?_).trans ((if_neg ?_).trans (if_pos rfl)) <;> assumption)); (· rfl)) | ((with_reducible apply po_store); (· rfl); (· rfl); (· first | exact if_pos rfl | (refine (if_neg ?_).trans (if_pos rfl); assumption) | (refine (if_neg ?_).trans ((if_neg ?_).trans (if_pos rfl)) <;> assumption)); (· exact ⟨rfl, rfl⟩); (· exact of_decide_eq_true rfl); (· rfl); (· exact fun _ _ h => False.elim h)) | (with_reducible refine pnil ?_) | ((with_reducible refine pnext ?_); try simp +decide only [pvl]) | ((fail_if_success (with_reducible refine pseqk ?_)); (with_reducible refine pseq ?_)) | ((with_reducible refine pkeep ?_); (try simp +decide only [pvl, pvt])) | (with_reducible refine pregion ?_) | (with_reducible refine pskip ?_) | (with_reducible refine pret_ ?_) | (with_reducible refine pnext_ret ?_) | (with_reducible refine pexit_ ?_) | (with_reducible refine pnext_exit ?_) | (with_reducible refine pblock_ret ?_) | (with_reducible refine pblock_normal ?_) | (with_reducible refine pexit_in ?_) | (with_reducible refine pexit_out rfl ?_))
  by_cases h1 : (l.length : Int) < 1
  · rw [decide_eq_true h1]
    repeat (first | (with_reducible refine po_movt ?_) | (with_reducible refine po_movc ?_) | ((with_reducible apply po_lenI); · rfl) | ((with_reducible apply po); (· rfl); (· rfl)) | ((with_reducible refine po_yt ?_ ?_); · (first | with_reducible rfl | (simp +decide only [pvl]; done))) | ((with_reducible refine po_yf ?_ ?_); · (first | with_reducible rfl | (simp +decide only [pvl]; done))) | ((with_reducible refine po_nt ?_ ?_); · (first | with_reducible rfl | (simp +decide only [pvl]; done))) | ((with_reducible refine po_nf ?_ ?_); · (first | with_reducible rfl | (simp +decide only [pvl]; done))) | ((with_reducible refine po_not' ?_ ?_); · (first | with_reducible rfl | (simp +decide only [pvl]; done))) | ((with_reducible refine pcond_tt ?_ ?_); · (first | with_reducible rfl | (simp +decide only [pvl]; done))) | ((with_reducible refine pcond_ff ?_ ?_); · (first | with_reducible rfl | (simp +decide only [pvl]; done))) | ((with_reducible apply po_loadE); (· rfl); (· rfl)) | ((with_reducible apply po_load); (· rfl); (· first | exact if_pos rfl | (refine (if_neg ?_).trans (if_pos rfl); assumption) | (refine (if_neg ?_).trans ((if_neg ?_).trans (if_pos rfl)) <;> assumption)); (· rfl)) | ((with_reducible apply po_store); (· rfl); (· rfl); (· first | exact if_pos rfl | (refine (if_neg ?_).trans (if_pos rfl); assumption) | (refine (if_neg ?_).trans ((if_neg ?_).trans (if_pos rfl)) <;> assumption)); (· exact ⟨rfl, rfl⟩); (· exact of_decide_eq_true rfl); (· rfl); (· exact fun _ _ h => False.elim h)) | (with_reducible refine pnil ?_) | ((with_reducible refine pnext ?_); try simp +decide only [pvl]) | ((fail_if_success (with_reducible refine pseqk ?_)); (with_reducible refine pseq ?_)) | ((with_reducible refine pkeep ?_); (try simp +decide only [pvl, pvt])) | (with_reducible refine pregion ?_) | (with_reducible refine pskip ?_) | (with_reducible refine pret_ ?_) | (with_reducible refine pnext_ret ?_) | (with_reducible refine pexit_ ?_) | (with_reducible refine pnext_exit ?_) | (with_reducible refine pblock_ret ?_) | (with_reducible refine pblock_normal ?_) | (with_reducible refine pexit_in ?_) | (with_reducible refine pexit_out rfl ?_))
    refine pfin_pure ?_ (.refl _); rw [okM, if_pos (by omega)]; rfl
  rw [decide_eq_false h1]
  repeat (first | (with_reducible refine po_movt ?_) | (with_reducible refine po_movc ?_) | ((with_reducible apply po_lenI); · rfl) | ((with_reducible apply po); (· rfl); (· rfl)) | ((with_reducible refine po_yt ?_ ?_); · (first | with_reducible rfl | (simp +decide only [pvl]; done))) | ((with_reducible refine po_yf ?_ ?_); · (first | with_reducible rfl | (simp +decide only [pvl]; done))) | ((with_reducible refine po_nt ?_ ?_); · (first | with_reducible rfl | (simp +decide only [pvl]; done))) | ((with_reducible refine po_nf ?_ ?_); · (first | with_reducible rfl | (simp +decide only [pvl]; done))) | ((with_reducible refine po_not' ?_ ?_); · (first | with_reducible rfl | (simp +decide only [pvl]; done))) | ((with_reducible refine pcond_tt ?_ ?_); · (first | with_reducible rfl | (simp +decide only [pvl]; done))) | ((with_reducible refine pcond_ff ?_ ?_); · (first | with_reducible rfl | (simp +decide only [pvl]; done))) | ((with_reducible apply po_loadE); (· rfl); (· rfl)) | ((with_reducible apply po_load); (· rfl); (· first | exact if_pos rfl | (refine (if_neg ?_).trans (if_pos rfl); assumption) | (refine (if_neg ?_).trans ((if_neg ?_).trans (if_pos rfl)) <;> assumption)); (· rfl)) | ((with_reducible apply po_store); (· rfl); (· rfl); (· first | exact if_pos rfl | (refine (if_neg ?_).trans (if_pos rfl); assumption) | (refine (if_neg ?_).trans ((if_neg ?_).trans (if_pos rfl)) <;> assumption)); (· exact ⟨rfl, rfl⟩); (· exact of_decide_eq_true rfl); (· rfl); (· exact fun _ _ h => False.elim h)) | (with_reducible refine pnil ?_) | ((with_reducible refine pnext ?_); try simp +decide only [pvl]) | ((fail_if_success (with_reducible refine pseqk ?_)); (with_reducible refine pseq ?_)) | ((with_reducible refine pkeep ?_); (try simp +decide only [pvl, pvt])) | (with_reducible refine pregion ?_) | (with_reducible refine pskip ?_) | (with_reducible refine pret_ ?_) | (with_reducible refine pnext_ret ?_) | (with_reducible refine pexit_ ?_) | (with_reducible refine pnext_exit ?_) | (with_reducible refine pblock_ret ?_) | (with_reducible refine pblock_normal ?_) | (with_reducible refine pexit_in ?_) | (with_reducible refine pexit_out rfl ?_))
  by_cases h2 : (l.length : Int) > 16
  · rw [decide_eq_true h2]
    repeat (first | (with_reducible refine po_movt ?_) | (with_reducible refine po_movc ?_) | ((with_reducible apply po_lenI); · rfl) | ((with_reducible apply po); (· rfl); (· rfl)) | ((with_reducible refine po_yt ?_ ?_); · (first | with_reducible rfl | (simp +decide only [pvl]; done))) | ((with_reducible refine po_yf ?_ ?_); · (first | with_reducible rfl | (simp +decide only [pvl]; done))) | ((with_reducible refine po_nt ?_ ?_); · (first | with_reducible rfl | (simp +decide only [pvl]; done))) | ((with_reducible refine po_nf ?_ ?_); · (first | with_reducible rfl | (simp +decide only [pvl]; done))) | ((with_reducible refine po_not' ?_ ?_); · (first | with_reducible rfl | (simp +decide only [pvl]; done))) | ((with_reducible refine pcond_tt ?_ ?_); · (first | with_reducible rfl | (simp +decide only [pvl]; done))) | ((with_reducible refine pcond_ff ?_ ?_); · (first | with_reducible rfl | (simp +decide only [pvl]; done))) | ((with_reducible apply po_loadE); (· rfl); (· rfl)) | ((with_reducible apply po_load); (· rfl); (· first | exact if_pos rfl | (refine (if_neg ?_).trans (if_pos rfl); assumption) | (refine (if_neg ?_).trans ((if_neg ?_).trans (if_pos rfl)) <;> assumption)); (· rfl)) | ((with_reducible apply po_store); (· rfl); (· rfl); (· first | exact if_pos rfl | (refine (if_neg ?_).trans (if_pos rfl); assumption) | (refine (if_neg ?_).trans ((if_neg ?_).trans (if_pos rfl)) <;> assumption)); (· exact ⟨rfl, rfl⟩); (· exact of_decide_eq_true rfl); (· rfl); (· exact fun _ _ h => False.elim h)) | (with_reducible refine pnil ?_) | ((with_reducible refine pnext ?_); try simp +decide only [pvl]) | ((fail_if_success (with_reducible refine pseqk ?_)); (with_reducible refine pseq ?_)) | ((with_reducible refine pkeep ?_); (try simp +decide only [pvl, pvt])) | (with_reducible refine pregion ?_) | (with_reducible refine pskip ?_) | (with_reducible refine pret_ ?_) | (with_reducible refine pnext_ret ?_) | (with_reducible refine pexit_ ?_) | (with_reducible refine pnext_exit ?_) | (with_reducible refine pblock_ret ?_) | (with_reducible refine pblock_normal ?_) | (with_reducible refine pexit_in ?_) | (with_reducible refine pexit_out rfl ?_))
    refine pfin_pure ?_ (.refl _); rw [okM, if_pos (by omega)]; rfl
  rw [decide_eq_false h2]
  repeat (first | (with_reducible refine po_movt ?_) | (with_reducible refine po_movc ?_) | ((with_reducible apply po_lenI); · rfl) | ((with_reducible apply po); (· rfl); (· rfl)) | ((with_reducible refine po_yt ?_ ?_); · (first | with_reducible rfl | (simp +decide only [pvl]; done))) | ((with_reducible refine po_yf ?_ ?_); · (first | with_reducible rfl | (simp +decide only [pvl]; done))) | ((with_reducible refine po_nt ?_ ?_); · (first | with_reducible rfl | (simp +decide only [pvl]; done))) | ((with_reducible refine po_nf ?_ ?_); · (first | with_reducible rfl | (simp +decide only [pvl]; done))) | ((with_reducible refine po_not' ?_ ?_); · (first | with_reducible rfl | (simp +decide only [pvl]; done))) | ((with_reducible refine pcond_tt ?_ ?_); · (first | with_reducible rfl | (simp +decide only [pvl]; done))) | ((with_reducible refine pcond_ff ?_ ?_); · (first | with_reducible rfl | (simp +decide only [pvl]; done))) | ((with_reducible apply po_loadE); (· rfl); (· rfl)) | ((with_reducible apply po_load); (· rfl); (· first | exact if_pos rfl | (refine (if_neg ?_).trans (if_pos rfl); assumption) | (refine (if_neg ?_).trans ((if_neg ?_).trans (if_pos rfl)) <;> assumption)); (· rfl)) | ((with_reducible apply po_store); (· rfl); (· rfl); (· first | exact if_pos rfl | (refine (if_neg ?_).trans (if_pos rfl); assumption) | (refine (if_neg ?_).trans ((if_neg ?_).trans (if_pos rfl)) <;> assumption)); (· exact ⟨rfl, rfl⟩); (· exact of_decide_eq_true rfl); (· rfl); (· exact fun _ _ h => False.elim h)) | (with_reducible refine pnil ?_) | ((with_reducible refine pnext ?_); try simp +decide only [pvl]) | ((fail_if_success (with_reducible refine pseqk ?_)); (with_reducible refine pseq ?_)) | ((with_reducible refine pkeep ?_); (try simp +decide only [pvl, pvt])) | (with_reducible refine pregion ?_) | (with_reducible refine pskip ?_) | (with_reducible refine pret_ ?_) | (with_reducible refine pnext_ret ?_) | (with_reducible refine pexit_ ?_) | (with_reducible refine pnext_exit ?_) | (with_reducible refine pblock_ret ?_) | (with_reducible refine pblock_normal ?_) | (with_reducible refine pexit_in ?_) | (with_reducible refine pexit_out rfl ?_))
  refine prange l.length (by omega) (fun k => put (put (put (put (fun _ => .undef) (some 15) (i64 k)) (some 14) (i64 l.length)) (some 13) (.d (ints l))) (some 0) (.d (ints l))) (fun _ => st) (fun k => ∀ i, i < k → badAt l i = false) (fun i h => by omega) rfl rfl (fun k => rfl) (fun k => rfl) ?_ ?_
  · intro hI
    repeat (first | (with_reducible refine po_movt ?_) | (with_reducible refine po_movc ?_) | ((with_reducible apply po_lenI); · rfl) | ((with_reducible apply po); (· rfl); (· rfl)) | ((with_reducible refine po_yt ?_ ?_); · (first | with_reducible rfl | (simp +decide only [pvl]; done))) | ((with_reducible refine po_yf ?_ ?_); · (first | with_reducible rfl | (simp +decide only [pvl]; done))) | ((with_reducible refine po_nt ?_ ?_); · (first | with_reducible rfl | (simp +decide only [pvl]; done))) | ((with_reducible refine po_nf ?_ ?_); · (first | with_reducible rfl | (simp +decide only [pvl]; done))) | ((with_reducible refine po_not' ?_ ?_); · (first | with_reducible rfl | (simp +decide only [pvl]; done))) | ((with_reducible refine pcond_tt ?_ ?_); · (first | with_reducible rfl | (simp +decide only [pvl]; done))) | ((with_reducible refine pcond_ff ?_ ?_); · (first | with_reducible rfl | (simp +decide only [pvl]; done))) | ((with_reducible apply po_loadE); (· rfl); (· rfl)) | ((with_reducible apply po_load); (· rfl); (· first | exact if_pos rfl | (refine (if_neg ?_).trans (if_pos rfl); assumption) | (refine (if_neg ?_).trans ((if_neg ?_).trans (if_pos rfl)) <;> assumption)); (· rfl)) | ((with_reducible apply po_store); (· rfl); (· rfl); (· first | exact if_pos rfl | (refine (if_neg ?_).trans (if_pos rfl); assumption) | (refine (if_neg ?_).trans ((if_neg ?_).trans (if_pos rfl)) <;> assumption)); (· exact ⟨rfl, rfl⟩); (· exact of_decide_eq_true rfl); (· rfl); (· exact fun _ _ h => False.elim h)) | (with_reducible refine pnil ?_) | ((with_reducible refine pnext ?_); try simp +decide only [pvl]) | ((fail_if_success (with_reducible refine pseqk ?_)); (with_reducible refine pseq ?_)) | ((with_reducible refine pkeep ?_); (try simp +decide only [pvl, pvt])) | (with_reducible refine pregion ?_) | (with_reducible refine pskip ?_) | (with_reducible refine pret_ ?_) | (with_reducible refine pnext_ret ?_) | (with_reducible refine pexit_ ?_) | (with_reducible refine pnext_exit ?_) | (with_reducible refine pblock_ret ?_) | (with_reducible refine pblock_normal ?_) | (with_reducible refine pexit_in ?_) | (with_reducible refine pexit_out rfl ?_))
    refine pfin_pure ?_ (.refl _); rw [okM, if_neg (by omega), if_pos hI]; rfl
  · intro k hk hI
    have hg : l.getD k 0 = l[k] := by simp [hk]
    have bad : badAt l k = true → okM l = 2 := fun hb => by
      rw [okM, if_neg (by omega), if_neg (fun h => by have := h k hk; rw [hb] at this; cases this)]
    have good : badAt l k = false → ∀ i, i < k + 1 → badAt l i = false := fun hb i hi => by
      by_cases e : i = k
      · rw [e]; exact hb
      · exact hI i (by omega)
    refine pblock ?_
    repeat (first | (with_reducible refine po_movt ?_) | (with_reducible refine po_movc ?_) | ((with_reducible apply po_lenI); · rfl) | ((with_reducible apply po); (· rfl); (· rfl)) | ((with_reducible refine po_yt ?_ ?_); · (first | with_reducible rfl | (simp +decide only [pvl]; done))) | ((with_reducible refine po_yf ?_ ?_); · (first | with_reducible rfl | (simp +decide only [pvl]; done))) | ((with_reducible refine po_nt ?_ ?_); · (first | with_reducible rfl | (simp +decide only [pvl]; done))) | ((with_reducible refine po_nf ?_ ?_); · (first | with_reducible rfl | (simp +decide only [pvl]; done))) | ((with_reducible refine po_not' ?_ ?_); · (first | with_reducible rfl | (simp +decide only [pvl]; done))) | ((with_reducible refine pcond_tt ?_ ?_); · (first | with_reducible rfl | (simp +decide only [pvl]; done))) | ((with_reducible refine pcond_ff ?_ ?_); · (first | with_reducible rfl | (simp +decide only [pvl]; done))) | ((with_reducible apply po_loadE); (· rfl); (· rfl)) | ((with_reducible apply po_load); (· rfl); (· first | exact if_pos rfl | (refine (if_neg ?_).trans (if_pos rfl); assumption) | (refine (if_neg ?_).trans ((if_neg ?_).trans (if_pos rfl)) <;> assumption)); (· rfl)) | ((with_reducible apply po_store); (· rfl); (· rfl); (· first | exact if_pos rfl | (refine (if_neg ?_).trans (if_pos rfl); assumption) | (refine (if_neg ?_).trans ((if_neg ?_).trans (if_pos rfl)) <;> assumption)); (· exact ⟨rfl, rfl⟩); (· exact of_decide_eq_true rfl); (· rfl); (· exact fun _ _ h => False.elim h)) | (with_reducible refine pnil ?_) | ((with_reducible refine pnext ?_); try simp +decide only [pvl]) | ((fail_if_success (with_reducible refine pseqk ?_)); (with_reducible refine pseq ?_)) | ((with_reducible refine pkeep ?_); (try simp +decide only [pvl, pvt])) | (with_reducible refine pregion ?_) | (with_reducible refine pskip ?_) | (with_reducible refine pret_ ?_) | (with_reducible refine pnext_ret ?_) | (with_reducible refine pexit_ ?_) | (with_reducible refine pnext_exit ?_) | (with_reducible refine pblock_ret ?_) | (with_reducible refine pblock_normal ?_) | (with_reducible refine pexit_in ?_) | (with_reducible refine pexit_out rfl ?_))
    refine po rfl (iaddr_ints rfl rfl hk) ?_
    repeat (first | (with_reducible refine po_movt ?_) | (with_reducible refine po_movc ?_) | ((with_reducible apply po_lenI); · rfl) | ((with_reducible apply po); (· rfl); (· rfl)) | ((with_reducible refine po_yt ?_ ?_); · (first | with_reducible rfl | (simp +decide only [pvl]; done))) | ((with_reducible refine po_yf ?_ ?_); · (first | with_reducible rfl | (simp +decide only [pvl]; done))) | ((with_reducible refine po_nt ?_ ?_); · (first | with_reducible rfl | (simp +decide only [pvl]; done))) | ((with_reducible refine po_nf ?_ ?_); · (first | with_reducible rfl | (simp +decide only [pvl]; done))) | ((with_reducible refine po_not' ?_ ?_); · (first | with_reducible rfl | (simp +decide only [pvl]; done))) | ((with_reducible refine pcond_tt ?_ ?_); · (first | with_reducible rfl | (simp +decide only [pvl]; done))) | ((with_reducible refine pcond_ff ?_ ?_); · (first | with_reducible rfl | (simp +decide only [pvl]; done))) | ((with_reducible apply po_loadE); (· rfl); (· rfl)) | ((with_reducible apply po_load); (· rfl); (· first | exact if_pos rfl | (refine (if_neg ?_).trans (if_pos rfl); assumption) | (refine (if_neg ?_).trans ((if_neg ?_).trans (if_pos rfl)) <;> assumption)); (· rfl)) | ((with_reducible apply po_store); (· rfl); (· rfl); (· first | exact if_pos rfl | (refine (if_neg ?_).trans (if_pos rfl); assumption) | (refine (if_neg ?_).trans ((if_neg ?_).trans (if_pos rfl)) <;> assumption)); (· exact ⟨rfl, rfl⟩); (· exact of_decide_eq_true rfl); (· rfl); (· exact fun _ _ h => False.elim h)) | (with_reducible refine pnil ?_) | ((with_reducible refine pnext ?_); try simp +decide only [pvl]) | ((fail_if_success (with_reducible refine pseqk ?_)); (with_reducible refine pseq ?_)) | ((with_reducible refine pkeep ?_); (try simp +decide only [pvl, pvt])) | (with_reducible refine pregion ?_) | (with_reducible refine pskip ?_) | (with_reducible refine pret_ ?_) | (with_reducible refine pnext_ret ?_) | (with_reducible refine pexit_ ?_) | (with_reducible refine pnext_exit ?_) | (with_reducible refine pblock_ret ?_) | (with_reducible refine pblock_normal ?_) | (with_reducible refine pexit_in ?_) | (with_reducible refine pexit_out rfl ?_))
    by_cases n0 : l[k] < 0
    · rw [decide_eq_true n0]
      repeat (first | (with_reducible refine po_movt ?_) | (with_reducible refine po_movc ?_) | ((with_reducible apply po_lenI); · rfl) | ((with_reducible apply po); (· rfl); (· rfl)) | ((with_reducible refine po_yt ?_ ?_); · (first | with_reducible rfl | (simp +decide only [pvl]; done))) | ((with_reducible refine po_yf ?_ ?_); · (first | with_reducible rfl | (simp +decide only [pvl]; done))) | ((with_reducible refine po_nt ?_ ?_); · (first | with_reducible rfl | (simp +decide only [pvl]; done))) | ((with_reducible refine po_nf ?_ ?_); · (first | with_reducible rfl | (simp +decide only [pvl]; done))) | ((with_reducible refine po_not' ?_ ?_); · (first | with_reducible rfl | (simp +decide only [pvl]; done))) | ((with_reducible refine pcond_tt ?_ ?_); · (first | with_reducible rfl | (simp +decide only [pvl]; done))) | ((with_reducible refine pcond_ff ?_ ?_); · (first | with_reducible rfl | (simp +decide only [pvl]; done))) | ((with_reducible apply po_loadE); (· rfl); (· rfl)) | ((with_reducible apply po_load); (· rfl); (· first | exact if_pos rfl | (refine (if_neg ?_).trans (if_pos rfl); assumption) | (refine (if_neg ?_).trans ((if_neg ?_).trans (if_pos rfl)) <;> assumption)); (· rfl)) | ((with_reducible apply po_store); (· rfl); (· rfl); (· first | exact if_pos rfl | (refine (if_neg ?_).trans (if_pos rfl); assumption) | (refine (if_neg ?_).trans ((if_neg ?_).trans (if_pos rfl)) <;> assumption)); (· exact ⟨rfl, rfl⟩); (· exact of_decide_eq_true rfl); (· rfl); (· exact fun _ _ h => False.elim h)) | (with_reducible refine pnil ?_) | ((with_reducible refine pnext ?_); try simp +decide only [pvl]) | ((fail_if_success (with_reducible refine pseqk ?_)); (with_reducible refine pseq ?_)) | ((with_reducible refine pkeep ?_); (try simp +decide only [pvl, pvt])) | (with_reducible refine pregion ?_) | (with_reducible refine pskip ?_) | (with_reducible refine pret_ ?_) | (with_reducible refine pnext_ret ?_) | (with_reducible refine pexit_ ?_) | (with_reducible refine pnext_exit ?_) | (with_reducible refine pblock_ret ?_) | (with_reducible refine pblock_normal ?_) | (with_reducible refine pexit_in ?_) | (with_reducible refine pexit_out rfl ?_))
      refine pfin_pure ?_ (.refl _); rw [bad (by rw [badAt, hg]; simp [bad3, n0])]; rfl
    rw [decide_eq_false n0]
    repeat (first | (with_reducible refine po_movt ?_) | (with_reducible refine po_movc ?_) | ((with_reducible apply po_lenI); · rfl) | ((with_reducible apply po); (· rfl); (· rfl)) | ((with_reducible refine po_yt ?_ ?_); · (first | with_reducible rfl | (simp +decide only [pvl]; done))) | ((with_reducible refine po_yf ?_ ?_); · (first | with_reducible rfl | (simp +decide only [pvl]; done))) | ((with_reducible refine po_nt ?_ ?_); · (first | with_reducible rfl | (simp +decide only [pvl]; done))) | ((with_reducible refine po_nf ?_ ?_); · (first | with_reducible rfl | (simp +decide only [pvl]; done))) | ((with_reducible refine po_not' ?_ ?_); · (first | with_reducible rfl | (simp +decide only [pvl]; done))) | ((with_reducible refine pcond_tt ?_ ?_); · (first | with_reducible rfl | (simp +decide only [pvl]; done))) | ((with_reducible refine pcond_ff ?_ ?_); · (first | with_reducible rfl | (simp +decide only [pvl]; done))) | ((with_reducible apply po_loadE); (· rfl); (· rfl)) | ((with_reducible apply po_load); (· rfl); (· first | exact if_pos rfl | (refine (if_neg ?_).trans (if_pos rfl); assumption) | (refine (if_neg ?_).trans ((if_neg ?_).trans (if_pos rfl)) <;> assumption)); (· rfl)) | ((with_reducible apply po_store); (· rfl); (· rfl); (· first | exact if_pos rfl | (refine (if_neg ?_).trans (if_pos rfl); assumption) | (refine (if_neg ?_).trans ((if_neg ?_).trans (if_pos rfl)) <;> assumption)); (· exact ⟨rfl, rfl⟩); (· exact of_decide_eq_true rfl); (· rfl); (· exact fun _ _ h => False.elim h)) | (with_reducible refine pnil ?_) | ((with_reducible refine pnext ?_); try simp +decide only [pvl]) | ((fail_if_success (with_reducible refine pseqk ?_)); (with_reducible refine pseq ?_)) | ((with_reducible refine pkeep ?_); (try simp +decide only [pvl, pvt])) | (with_reducible refine pregion ?_) | (with_reducible refine pskip ?_) | (with_reducible refine pret_ ?_) | (with_reducible refine pnext_ret ?_) | (with_reducible refine pexit_ ?_) | (with_reducible refine pnext_exit ?_) | (with_reducible refine pblock_ret ?_) | (with_reducible refine pblock_normal ?_) | (with_reducible refine pexit_in ?_) | (with_reducible refine pexit_out rfl ?_))
    by_cases n1 : l[k] ≥ 16
    · rw [decide_eq_true n1]
      repeat (first | (with_reducible refine po_movt ?_) | (with_reducible refine po_movc ?_) | ((with_reducible apply po_lenI); · rfl) | ((with_reducible apply po); (· rfl); (· rfl)) | ((with_reducible refine po_yt ?_ ?_); · (first | with_reducible rfl | (simp +decide only [pvl]; done))) | ((with_reducible refine po_yf ?_ ?_); · (first | with_reducible rfl | (simp +decide only [pvl]; done))) | ((with_reducible refine po_nt ?_ ?_); · (first | with_reducible rfl | (simp +decide only [pvl]; done))) | ((with_reducible refine po_nf ?_ ?_); · (first | with_reducible rfl | (simp +decide only [pvl]; done))) | ((with_reducible refine po_not' ?_ ?_); · (first | with_reducible rfl | (simp +decide only [pvl]; done))) | ((with_reducible refine pcond_tt ?_ ?_); · (first | with_reducible rfl | (simp +decide only [pvl]; done))) | ((with_reducible refine pcond_ff ?_ ?_); · (first | with_reducible rfl | (simp +decide only [pvl]; done))) | ((with_reducible apply po_loadE); (· rfl); (· rfl)) | ((with_reducible apply po_load); (· rfl); (· first | exact if_pos rfl | (refine (if_neg ?_).trans (if_pos rfl); assumption) | (refine (if_neg ?_).trans ((if_neg ?_).trans (if_pos rfl)) <;> assumption)); (· rfl)) | ((with_reducible apply po_store); (· rfl); (· rfl); (· first | exact if_pos rfl | (refine (if_neg ?_).trans (if_pos rfl); assumption) | (refine (if_neg ?_).trans ((if_neg ?_).trans (if_pos rfl)) <;> assumption)); (· exact ⟨rfl, rfl⟩); (· exact of_decide_eq_true rfl); (· rfl); (· exact fun _ _ h => False.elim h)) | (with_reducible refine pnil ?_) | ((with_reducible refine pnext ?_); try simp +decide only [pvl]) | ((fail_if_success (with_reducible refine pseqk ?_)); (with_reducible refine pseq ?_)) | ((with_reducible refine pkeep ?_); (try simp +decide only [pvl, pvt])) | (with_reducible refine pregion ?_) | (with_reducible refine pskip ?_) | (with_reducible refine pret_ ?_) | (with_reducible refine pnext_ret ?_) | (with_reducible refine pexit_ ?_) | (with_reducible refine pnext_exit ?_) | (with_reducible refine pblock_ret ?_) | (with_reducible refine pblock_normal ?_) | (with_reducible refine pexit_in ?_) | (with_reducible refine pexit_out rfl ?_))
      refine pfin_pure ?_ (.refl _); rw [bad (by rw [badAt, hg]; simp [bad3, n1])]; rfl
    rw [decide_eq_false n1]
    repeat (first | (with_reducible refine po_movt ?_) | (with_reducible refine po_movc ?_) | ((with_reducible apply po_lenI); · rfl) | ((with_reducible apply po); (· rfl); (· rfl)) | ((with_reducible refine po_yt ?_ ?_); · (first | with_reducible rfl | (simp +decide only [pvl]; done))) | ((with_reducible refine po_yf ?_ ?_); · (first | with_reducible rfl | (simp +decide only [pvl]; done))) | ((with_reducible refine po_nt ?_ ?_); · (first | with_reducible rfl | (simp +decide only [pvl]; done))) | ((with_reducible refine po_nf ?_ ?_); · (first | with_reducible rfl | (simp +decide only [pvl]; done))) | ((with_reducible refine po_not' ?_ ?_); · (first | with_reducible rfl | (simp +decide only [pvl]; done))) | ((with_reducible refine pcond_tt ?_ ?_); · (first | with_reducible rfl | (simp +decide only [pvl]; done))) | ((with_reducible refine pcond_ff ?_ ?_); · (first | with_reducible rfl | (simp +decide only [pvl]; done))) | ((with_reducible apply po_loadE); (· rfl); (· rfl)) | ((with_reducible apply po_load); (· rfl); (· first | exact if_pos rfl | (refine (if_neg ?_).trans (if_pos rfl); assumption) | (refine (if_neg ?_).trans ((if_neg ?_).trans (if_pos rfl)) <;> assumption)); (· rfl)) | ((with_reducible apply po_store); (· rfl); (· rfl); (· first | exact if_pos rfl | (refine (if_neg ?_).trans (if_pos rfl); assumption) | (refine (if_neg ?_).trans ((if_neg ?_).trans (if_pos rfl)) <;> assumption)); (· exact ⟨rfl, rfl⟩); (· exact of_decide_eq_true rfl); (· rfl); (· exact fun _ _ h => False.elim h)) | (with_reducible refine pnil ?_) | ((with_reducible refine pnext ?_); try simp +decide only [pvl]) | ((fail_if_success (with_reducible refine pseqk ?_)); (with_reducible refine pseq ?_)) | ((with_reducible refine pkeep ?_); (try simp +decide only [pvl, pvt])) | (with_reducible refine pregion ?_) | (with_reducible refine pskip ?_) | (with_reducible refine pret_ ?_) | (with_reducible refine pnext_ret ?_) | (with_reducible refine pexit_ ?_) | (with_reducible refine pnext_exit ?_) | (with_reducible refine pblock_ret ?_) | (with_reducible refine pblock_normal ?_) | (with_reducible refine pexit_in ?_) | (with_reducible refine pexit_out rfl ?_))
    by_cases n2 : (k : Int) > 0
    · rw [decide_eq_true n2]
      repeat (first | (with_reducible refine po_movt ?_) | (with_reducible refine po_movc ?_) | ((with_reducible apply po_lenI); · rfl) | ((with_reducible apply po); (· rfl); (· rfl)) | ((with_reducible refine po_yt ?_ ?_); · (first | with_reducible rfl | (simp +decide only [pvl]; done))) | ((with_reducible refine po_yf ?_ ?_); · (first | with_reducible rfl | (simp +decide only [pvl]; done))) | ((with_reducible refine po_nt ?_ ?_); · (first | with_reducible rfl | (simp +decide only [pvl]; done))) | ((with_reducible refine po_nf ?_ ?_); · (first | with_reducible rfl | (simp +decide only [pvl]; done))) | ((with_reducible refine po_not' ?_ ?_); · (first | with_reducible rfl | (simp +decide only [pvl]; done))) | ((with_reducible refine pcond_tt ?_ ?_); · (first | with_reducible rfl | (simp +decide only [pvl]; done))) | ((with_reducible refine pcond_ff ?_ ?_); · (first | with_reducible rfl | (simp +decide only [pvl]; done))) | ((with_reducible apply po_loadE); (· rfl); (· rfl)) | ((with_reducible apply po_load); (· rfl); (· first | exact if_pos rfl | (refine (if_neg ?_).trans (if_pos rfl); assumption) | (refine (if_neg ?_).trans ((if_neg ?_).trans (if_pos rfl)) <;> assumption)); (· rfl)) | ((with_reducible apply po_store); (· rfl); (· rfl); (· first | exact if_pos rfl | (refine (if_neg ?_).trans (if_pos rfl); assumption) | (refine (if_neg ?_).trans ((if_neg ?_).trans (if_pos rfl)) <;> assumption)); (· exact ⟨rfl, rfl⟩); (· exact of_decide_eq_true rfl); (· rfl); (· exact fun _ _ h => False.elim h)) | (with_reducible refine pnil ?_) | ((with_reducible refine pnext ?_); try simp +decide only [pvl]) | ((fail_if_success (with_reducible refine pseqk ?_)); (with_reducible refine pseq ?_)) | ((with_reducible refine pkeep ?_); (try simp +decide only [pvl, pvt])) | (with_reducible refine pregion ?_) | (with_reducible refine pskip ?_) | (with_reducible refine pret_ ?_) | (with_reducible refine pnext_ret ?_) | (with_reducible refine pexit_ ?_) | (with_reducible refine pnext_exit ?_) | (with_reducible refine pblock_ret ?_) | (with_reducible refine pblock_normal ?_) | (with_reducible refine pexit_in ?_) | (with_reducible refine pexit_out rfl ?_))
      have hw : IntKind.i64.wrap ((k : Int) - 1) = ((k - 1 : Nat) : Int) := by rw [IntWalk.i64_in _ (by omega)]; omega
      rw [hw]
      refine po rfl (iaddr_ints rfl rfl (by omega)) ?_
      repeat (first | (with_reducible refine po_movt ?_) | (with_reducible refine po_movc ?_) | ((with_reducible apply po_lenI); · rfl) | ((with_reducible apply po); (· rfl); (· rfl)) | ((with_reducible refine po_yt ?_ ?_); · (first | with_reducible rfl | (simp +decide only [pvl]; done))) | ((with_reducible refine po_yf ?_ ?_); · (first | with_reducible rfl | (simp +decide only [pvl]; done))) | ((with_reducible refine po_nt ?_ ?_); · (first | with_reducible rfl | (simp +decide only [pvl]; done))) | ((with_reducible refine po_nf ?_ ?_); · (first | with_reducible rfl | (simp +decide only [pvl]; done))) | ((with_reducible refine po_not' ?_ ?_); · (first | with_reducible rfl | (simp +decide only [pvl]; done))) | ((with_reducible refine pcond_tt ?_ ?_); · (first | with_reducible rfl | (simp +decide only [pvl]; done))) | ((with_reducible refine pcond_ff ?_ ?_); · (first | with_reducible rfl | (simp +decide only [pvl]; done))) | ((with_reducible apply po_loadE); (· rfl); (· rfl)) | ((with_reducible apply po_load); (· rfl); (· first | exact if_pos rfl | (refine (if_neg ?_).trans (if_pos rfl); assumption) | (refine (if_neg ?_).trans ((if_neg ?_).trans (if_pos rfl)) <;> assumption)); (· rfl)) | ((with_reducible apply po_store); (· rfl); (· rfl); (· first | exact if_pos rfl | (refine (if_neg ?_).trans (if_pos rfl); assumption) | (refine (if_neg ?_).trans ((if_neg ?_).trans (if_pos rfl)) <;> assumption)); (· exact ⟨rfl, rfl⟩); (· exact of_decide_eq_true rfl); (· rfl); (· exact fun _ _ h => False.elim h)) | (with_reducible refine pnil ?_) | ((with_reducible refine pnext ?_); try simp +decide only [pvl]) | ((fail_if_success (with_reducible refine pseqk ?_)); (with_reducible refine pseq ?_)) | ((with_reducible refine pkeep ?_); (try simp +decide only [pvl, pvt])) | (with_reducible refine pregion ?_) | (with_reducible refine pskip ?_) | (with_reducible refine pret_ ?_) | (with_reducible refine pnext_ret ?_) | (with_reducible refine pexit_ ?_) | (with_reducible refine pnext_exit ?_) | (with_reducible refine pblock_ret ?_) | (with_reducible refine pblock_normal ?_) | (with_reducible refine pexit_in ?_) | (with_reducible refine pexit_out rfl ?_))
      have hg' : l.getD (k - 1) 0 = l[k - 1] := by simp [show k - 1 < l.length by omega]
      by_cases n3 : l[k] ≤ l[k - 1]
      · rw [decide_eq_true n3]
        repeat (first | (with_reducible refine po_movt ?_) | (with_reducible refine po_movc ?_) | ((with_reducible apply po_lenI); · rfl) | ((with_reducible apply po); (· rfl); (· rfl)) | ((with_reducible refine po_yt ?_ ?_); · (first | with_reducible rfl | (simp +decide only [pvl]; done))) | ((with_reducible refine po_yf ?_ ?_); · (first | with_reducible rfl | (simp +decide only [pvl]; done))) | ((with_reducible refine po_nt ?_ ?_); · (first | with_reducible rfl | (simp +decide only [pvl]; done))) | ((with_reducible refine po_nf ?_ ?_); · (first | with_reducible rfl | (simp +decide only [pvl]; done))) | ((with_reducible refine po_not' ?_ ?_); · (first | with_reducible rfl | (simp +decide only [pvl]; done))) | ((with_reducible refine pcond_tt ?_ ?_); · (first | with_reducible rfl | (simp +decide only [pvl]; done))) | ((with_reducible refine pcond_ff ?_ ?_); · (first | with_reducible rfl | (simp +decide only [pvl]; done))) | ((with_reducible apply po_loadE); (· rfl); (· rfl)) | ((with_reducible apply po_load); (· rfl); (· first | exact if_pos rfl | (refine (if_neg ?_).trans (if_pos rfl); assumption) | (refine (if_neg ?_).trans ((if_neg ?_).trans (if_pos rfl)) <;> assumption)); (· rfl)) | ((with_reducible apply po_store); (· rfl); (· rfl); (· first | exact if_pos rfl | (refine (if_neg ?_).trans (if_pos rfl); assumption) | (refine (if_neg ?_).trans ((if_neg ?_).trans (if_pos rfl)) <;> assumption)); (· exact ⟨rfl, rfl⟩); (· exact of_decide_eq_true rfl); (· rfl); (· exact fun _ _ h => False.elim h)) | (with_reducible refine pnil ?_) | ((with_reducible refine pnext ?_); try simp +decide only [pvl]) | ((fail_if_success (with_reducible refine pseqk ?_)); (with_reducible refine pseq ?_)) | ((with_reducible refine pkeep ?_); (try simp +decide only [pvl, pvt])) | (with_reducible refine pregion ?_) | (with_reducible refine pskip ?_) | (with_reducible refine pret_ ?_) | (with_reducible refine pnext_ret ?_) | (with_reducible refine pexit_ ?_) | (with_reducible refine pnext_exit ?_) | (with_reducible refine pblock_ret ?_) | (with_reducible refine pblock_normal ?_) | (with_reducible refine pexit_in ?_) | (with_reducible refine pexit_out rfl ?_))
        refine pfin_pure ?_ (.refl _); rw [bad (by rw [badAt, hg, hg']; simp [bad3, n3]; omega)]; rfl
      · rw [decide_eq_false n3]
        repeat (first | (with_reducible refine po_movt ?_) | (with_reducible refine po_movc ?_) | ((with_reducible apply po_lenI); · rfl) | ((with_reducible apply po); (· rfl); (· rfl)) | ((with_reducible refine po_yt ?_ ?_); · (first | with_reducible rfl | (simp +decide only [pvl]; done))) | ((with_reducible refine po_yf ?_ ?_); · (first | with_reducible rfl | (simp +decide only [pvl]; done))) | ((with_reducible refine po_nt ?_ ?_); · (first | with_reducible rfl | (simp +decide only [pvl]; done))) | ((with_reducible refine po_nf ?_ ?_); · (first | with_reducible rfl | (simp +decide only [pvl]; done))) | ((with_reducible refine po_not' ?_ ?_); · (first | with_reducible rfl | (simp +decide only [pvl]; done))) | ((with_reducible refine pcond_tt ?_ ?_); · (first | with_reducible rfl | (simp +decide only [pvl]; done))) | ((with_reducible refine pcond_ff ?_ ?_); · (first | with_reducible rfl | (simp +decide only [pvl]; done))) | ((with_reducible apply po_loadE); (· rfl); (· rfl)) | ((with_reducible apply po_load); (· rfl); (· first | exact if_pos rfl | (refine (if_neg ?_).trans (if_pos rfl); assumption) | (refine (if_neg ?_).trans ((if_neg ?_).trans (if_pos rfl)) <;> assumption)); (· rfl)) | ((with_reducible apply po_store); (· rfl); (· rfl); (· first | exact if_pos rfl | (refine (if_neg ?_).trans (if_pos rfl); assumption) | (refine (if_neg ?_).trans ((if_neg ?_).trans (if_pos rfl)) <;> assumption)); (· exact ⟨rfl, rfl⟩); (· exact of_decide_eq_true rfl); (· rfl); (· exact fun _ _ h => False.elim h)) | (with_reducible refine pnil ?_) | ((with_reducible refine pnext ?_); try simp +decide only [pvl]) | ((fail_if_success (with_reducible refine pseqk ?_)); (with_reducible refine pseq ?_)) | ((with_reducible refine pkeep ?_); (try simp +decide only [pvl, pvt])) | (with_reducible refine pregion ?_) | (with_reducible refine pskip ?_) | (with_reducible refine pret_ ?_) | (with_reducible refine pnext_ret ?_) | (with_reducible refine pexit_ ?_) | (with_reducible refine pnext_exit ?_) | (with_reducible refine pblock_ret ?_) | (with_reducible refine pblock_normal ?_) | (with_reducible refine pexit_in ?_) | (with_reducible refine pexit_out rfl ?_))
        refine ⟨good (by rw [badAt, hg, hg']; simp [bad3]; omega), ?_, ?_, ?_⟩ <;> first | trivial | rfl
    · rw [decide_eq_false n2]
      repeat (first | (with_reducible refine po_movt ?_) | (with_reducible refine po_movc ?_) | ((with_reducible apply po_lenI); · rfl) | ((with_reducible apply po); (· rfl); (· rfl)) | ((with_reducible refine po_yt ?_ ?_); · (first | with_reducible rfl | (simp +decide only [pvl]; done))) | ((with_reducible refine po_yf ?_ ?_); · (first | with_reducible rfl | (simp +decide only [pvl]; done))) | ((with_reducible refine po_nt ?_ ?_); · (first | with_reducible rfl | (simp +decide only [pvl]; done))) | ((with_reducible refine po_nf ?_ ?_); · (first | with_reducible rfl | (simp +decide only [pvl]; done))) | ((with_reducible refine po_not' ?_ ?_); · (first | with_reducible rfl | (simp +decide only [pvl]; done))) | ((with_reducible refine pcond_tt ?_ ?_); · (first | with_reducible rfl | (simp +decide only [pvl]; done))) | ((with_reducible refine pcond_ff ?_ ?_); · (first | with_reducible rfl | (simp +decide only [pvl]; done))) | ((with_reducible apply po_loadE); (· rfl); (· rfl)) | ((with_reducible apply po_load); (· rfl); (· first | exact if_pos rfl | (refine (if_neg ?_).trans (if_pos rfl); assumption) | (refine (if_neg ?_).trans ((if_neg ?_).trans (if_pos rfl)) <;> assumption)); (· rfl)) | ((with_reducible apply po_store); (· rfl); (· rfl); (· first | exact if_pos rfl | (refine (if_neg ?_).trans (if_pos rfl); assumption) | (refine (if_neg ?_).trans ((if_neg ?_).trans (if_pos rfl)) <;> assumption)); (· exact ⟨rfl, rfl⟩); (· exact of_decide_eq_true rfl); (· rfl); (· exact fun _ _ h => False.elim h)) | (with_reducible refine pnil ?_) | ((with_reducible refine pnext ?_); try simp +decide only [pvl]) | ((fail_if_success (with_reducible refine pseqk ?_)); (with_reducible refine pseq ?_)) | ((with_reducible refine pkeep ?_); (try simp +decide only [pvl, pvt])) | (with_reducible refine pregion ?_) | (with_reducible refine pskip ?_) | (with_reducible refine pret_ ?_) | (with_reducible refine pnext_ret ?_) | (with_reducible refine pexit_ ?_) | (with_reducible refine pnext_exit ?_) | (with_reducible refine pblock_ret ?_) | (with_reducible refine pblock_normal ?_) | (with_reducible refine pexit_in ?_) | (with_reducible refine pexit_out rfl ?_))
      refine ⟨good (by rw [badAt, hg]; simp [bad3]; omega), ?_, ?_, ?_⟩ <;> first | trivial | rfl


def nextV (num : Int) (ms l : List Int) : AV := if okM l = 0 ∧ (ms.length : Int) < 2 * cnt ms l then .tup [view (num + 1) l, b2 true] else .tup [.agg [i64 0, .full []], b2 false]

theorem C21 (l : List Int) (h : l ≠ []) (hl : l.length < 2 ^ 40) : Pure (PCalls Try.prog GG) 21 [.d (ints l)] (.d (ints l)) := by
  intro st
  refine pcalls_of k21 e21 (of_decide_eq_true rfl) ?_
  dsimp only [c21]
  repeat (first | (with_reducible refine po_movt ?_) | (with_reducible refine po_movc ?_) | ((with_reducible apply po_lenI); · rfl) | ((with_reducible apply po); (· rfl); (· rfl)) | ((with_reducible refine po_yt ?_ ?_); · (first | with_reducible rfl | (simp +decide only [pvl]; done))) | ((with_reducible refine po_yf ?_ ?_); · (first | with_reducible rfl | (simp +decide only [pvl]; done))) | ((with_reducible refine po_nt ?_ ?_); · (first | with_reducible rfl | (simp +decide only [pvl]; done))) | ((with_reducible refine po_nf ?_ ?_); · (first | with_reducible rfl | (simp +decide only [pvl]; done))) | ((with_reducible refine po_not' ?_ ?_); · (first | with_reducible rfl | (simp +decide only [pvl]; done))) | ((with_reducible refine pcond_tt ?_ ?_); · (first | with_reducible rfl | (simp +decide only [pvl]; done))) | ((with_reducible refine pcond_ff ?_ ?_); · (first | with_reducible rfl | (simp +decide only [pvl]; done))) | ((with_reducible apply po_loadE); (· rfl); (· rfl)) | ((with_reducible apply po_load); (· rfl); (· first | exact if_pos rfl | (refine (if_neg ?_).trans (if_pos rfl); assumption) | (refine (if_neg ?_).trans ((if_neg ?_).trans (if_pos rfl)) <;> assumption)); (· rfl)) | ((with_reducible apply po_store); (· rfl); (· rfl); (· first | exact if_pos rfl | (refine (if_neg ?_).trans (if_pos rfl); assumption) | (refine (if_neg ?_).trans ((if_neg ?_).trans (if_pos rfl)) <;> assumption)); (· exact ⟨rfl, rfl⟩); (· exact of_decide_eq_true rfl); (· rfl); (· exact fun _ _ h => False.elim h)) | (with_reducible refine pnil ?_) | ((with_reducible refine pnext ?_); try simp +decide only [pvl]) | ((fail_if_success (with_reducible refine pseqk ?_)); (with_reducible refine pseq ?_)) | ((with_reducible refine pkeep ?_); (try simp +decide only [pvl, pvt])) | (with_reducible refine pregion ?_) | (with_reducible refine pskip ?_) | (with_reducible refine pret_ ?_) | (with_reducible refine pnext_ret ?_) | (with_reducible refine pexit_ ?_) | (with_reducible refine pnext_exit ?_) | (with_reducible refine pblock_ret ?_) | (with_reducible refine pblock_normal ?_) | (with_reducible refine pexit_in ?_) | (with_reducible refine pexit_out rfl ?_))
  refine po rfl (v := b2 false) ?_ ?_
  · obtain ⟨x, l, rfl⟩ := List.exists_cons_of_ne_nil h
    rfl
  repeat (first | (with_reducible refine po_movt ?_) | (with_reducible refine po_movc ?_) | ((with_reducible apply po_lenI); · rfl) | ((with_reducible apply po); (· rfl); (· rfl)) | ((with_reducible refine po_yt ?_ ?_); · (first | with_reducible rfl | (simp +decide only [pvl]; done))) | ((with_reducible refine po_yf ?_ ?_); · (first | with_reducible rfl | (simp +decide only [pvl]; done))) | ((with_reducible refine po_nt ?_ ?_); · (first | with_reducible rfl | (simp +decide only [pvl]; done))) | ((with_reducible refine po_nf ?_ ?_); · (first | with_reducible rfl | (simp +decide only [pvl]; done))) | ((with_reducible refine po_not' ?_ ?_); · (first | with_reducible rfl | (simp +decide only [pvl]; done))) | ((with_reducible refine pcond_tt ?_ ?_); · (first | with_reducible rfl | (simp +decide only [pvl]; done))) | ((with_reducible refine pcond_ff ?_ ?_); · (first | with_reducible rfl | (simp +decide only [pvl]; done))) | ((with_reducible apply po_loadE); (· rfl); (· rfl)) | ((with_reducible apply po_load); (· rfl); (· first | exact if_pos rfl | (refine (if_neg ?_).trans (if_pos rfl); assumption) | (refine (if_neg ?_).trans ((if_neg ?_).trans (if_pos rfl)) <;> assumption)); (· rfl)) | ((with_reducible apply po_store); (· rfl); (· rfl); (· first | exact if_pos rfl | (refine (if_neg ?_).trans (if_pos rfl); assumption) | (refine (if_neg ?_).trans ((if_neg ?_).trans (if_pos rfl)) <;> assumption)); (· exact ⟨rfl, rfl⟩); (· exact of_decide_eq_true rfl); (· rfl); (· exact fun _ _ h => False.elim h)) | (with_reducible refine pnil ?_) | ((with_reducible refine pnext ?_); try simp +decide only [pvl]) | ((fail_if_success (with_reducible refine pseqk ?_)); (with_reducible refine pseq ?_)) | ((with_reducible refine pkeep ?_); (try simp +decide only [pvl, pvt])) | (with_reducible refine pregion ?_) | (with_reducible refine pskip ?_) | (with_reducible refine pret_ ?_) | (with_reducible refine pnext_ret ?_) | (with_reducible refine pexit_ ?_) | (with_reducible refine pnext_exit ?_) | (with_reducible refine pblock_ret ?_) | (with_reducible refine pblock_normal ?_) | (with_reducible refine pexit_in ?_) | (with_reducible refine pexit_out rfl ?_))
  refine po_app rfl (.inl ⟨rfl, rfl⟩) (news := irows l) rfl ?_ ?_ ?_ ?_
  · simp
  · simp [irows]
  · simp [irows]; omega
  intro v' t' hv
  repeat (first | (with_reducible refine po_movt ?_) | (with_reducible refine po_movc ?_) | ((with_reducible apply po_lenI); · rfl) | ((with_reducible apply po); (· rfl); (· rfl)) | ((with_reducible refine po_yt ?_ ?_); · (first | with_reducible rfl | (simp +decide only [pvl]; done))) | ((with_reducible refine po_yf ?_ ?_); · (first | with_reducible rfl | (simp +decide only [pvl]; done))) | ((with_reducible refine po_nt ?_ ?_); · (first | with_reducible rfl | (simp +decide only [pvl]; done))) | ((with_reducible refine po_nf ?_ ?_); · (first | with_reducible rfl | (simp +decide only [pvl]; done))) | ((with_reducible refine po_not' ?_ ?_); · (first | with_reducible rfl | (simp +decide only [pvl]; done))) | ((with_reducible refine pcond_tt ?_ ?_); · (first | with_reducible rfl | (simp +decide only [pvl]; done))) | ((with_reducible refine pcond_ff ?_ ?_); · (first | with_reducible rfl | (simp +decide only [pvl]; done))) | ((with_reducible apply po_loadE); (· rfl); (· rfl)) | ((with_reducible apply po_load); (· rfl); (· first | exact if_pos rfl | (refine (if_neg ?_).trans (if_pos rfl); assumption) | (refine (if_neg ?_).trans ((if_neg ?_).trans (if_pos rfl)) <;> assumption)); (· rfl)) | ((with_reducible apply po_store); (· rfl); (· rfl); (· first | exact if_pos rfl | (refine (if_neg ?_).trans (if_pos rfl); assumption) | (refine (if_neg ?_).trans ((if_neg ?_).trans (if_pos rfl)) <;> assumption)); (· exact ⟨rfl, rfl⟩); (· exact of_decide_eq_true rfl); (· rfl); (· exact fun _ _ h => False.elim h)) | (with_reducible refine pnil ?_) | ((with_reducible refine pnext ?_); try simp +decide only [pvl]) | ((fail_if_success (with_reducible refine pseqk ?_)); (with_reducible refine pseq ?_)) | ((with_reducible refine pkeep ?_); (try simp +decide only [pvl, pvt])) | (with_reducible refine pregion ?_) | (with_reducible refine pskip ?_) | (with_reducible refine pret_ ?_) | (with_reducible refine pnext_ret ?_) | (with_reducible refine pexit_ ?_) | (with_reducible refine pnext_exit ?_) | (with_reducible refine pblock_ret ?_) | (with_reducible refine pblock_normal ?_) | (with_reducible refine pexit_in ?_) | (with_reducible refine pexit_out rfl ?_))
  refine pfin_weak rfl ?_ hv.le
  show v'.weak = _
  rw [hv.weak]; rfl

theorem okM_len {l : List Int} (h : okM l = 0) : 1 ≤ l.length ∧ l.length ≤ 16 := by
  unfold okM at h
  split at h
  · simp at h
  · omega

theorem C12 (num : Int) (ms l : List Int) (hm : ms.length < 2 ^ 60) (hl : l.length < 2 ^ 62) (hn : 0 ≤ num ∧ num < 2 ^ 40) : Pure (PCalls Try.prog GG) 12 [view num ms, .d (ints l)] (nextV num ms l) := by
  intro st
  refine pcalls_of k12 e12 (of_decide_eq_true rfl) ?_
  dsimp only [c12]
  refine pseq (pregion (po_box (cells := [i64 num, .d (ints ms)]) rfl rfl fun b hb => po_alloc fun c hc => ?_))
  have hbc : b ≠ c := fresh_ne hc
  have hle2 : ∀ l, st.le (((st.setBox b [i64 num, .d (ints ms)]).setBox c [i64 0, .full []]).setBox c l) := fun l => by
    have : st.box c = none := by
      have := hc.1
      rwa [setSt_st, St.box_setBox, if_neg (Ne.symm hbc)] at this
    exact (((St.le.refl _).setBox _ hb.1).setBox _ this).setBox _ this
  repeat (first | (with_reducible refine po_movt ?_) | (with_reducible refine po_movc ?_) | ((with_reducible apply po_lenI); · rfl) | ((with_reducible apply po); (· rfl); (· rfl)) | ((with_reducible refine po_yt ?_ ?_); · (first | with_reducible rfl | (simp +decide only [pvl]; done))) | ((with_reducible refine po_yf ?_ ?_); · (first | with_reducible rfl | (simp +decide only [pvl]; done))) | ((with_reducible refine po_nt ?_ ?_); · (first | with_reducible rfl | (simp +decide only [pvl]; done))) | ((with_reducible refine po_nf ?_ ?_); · (first | with_reducible rfl | (simp +decide only [pvl]; done))) | ((with_reducible refine po_not' ?_ ?_); · (first | with_reducible rfl | (simp +decide only [pvl]; done))) | ((with_reducible refine pcond_tt ?_ ?_); · (first | with_reducible rfl | (simp +decide only [pvl]; done))) | ((with_reducible refine pcond_ff ?_ ?_); · (first | with_reducible rfl | (simp +decide only [pvl]; done))) | ((with_reducible apply po_loadE); (· rfl); (· rfl)) | ((with_reducible apply po_load); (· rfl); (· first | exact if_pos rfl | (refine (if_neg ?_).trans (if_pos rfl); assumption) | (refine (if_neg ?_).trans ((if_neg ?_).trans (if_pos rfl)) <;> assumption)); (· rfl)) | ((with_reducible apply po_store); (· rfl); (· rfl); (· first | exact if_pos rfl | (refine (if_neg ?_).trans (if_pos rfl); assumption) | (refine (if_neg ?_).trans ((if_neg ?_).trans (if_pos rfl)) <;> assumption)); (· exact ⟨rfl, rfl⟩); (· exact of_decide_eq_true rfl); (· rfl); (· exact fun _ _ h => False.elim h)) | (with_reducible refine pnil ?_) | ((with_reducible refine pnext ?_); try simp +decide only [pvl]) | ((fail_if_success (with_reducible refine pseqk ?_)); (with_reducible refine pseq ?_)) | ((with_reducible refine pkeep ?_); (try simp +decide only [pvl, pvt])) | (with_reducible refine pregion ?_) | (with_reducible refine pskip ?_) | (with_reducible refine pret_ ?_) | (with_reducible refine pnext_ret ?_) | (with_reducible refine pexit_ ?_) | (with_reducible refine pnext_exit ?_) | (with_reducible refine pblock_ret ?_) | (with_reducible refine pblock_normal ?_) | (with_reducible refine pexit_in ?_) | (with_reducible refine pexit_out rfl ?_))
  refine po_callp rfl (C13 l hl) ?_
  repeat (first | (with_reducible refine po_movt ?_) | (with_reducible refine po_movc ?_) | ((with_reducible apply po_lenI); · rfl) | ((with_reducible apply po); (· rfl); (· rfl)) | ((with_reducible refine po_yt ?_ ?_); · (first | with_reducible rfl | (simp +decide only [pvl]; done))) | ((with_reducible refine po_yf ?_ ?_); · (first | with_reducible rfl | (simp +decide only [pvl]; done))) | ((with_reducible refine po_nt ?_ ?_); · (first | with_reducible rfl | (simp +decide only [pvl]; done))) | ((with_reducible refine po_nf ?_ ?_); · (first | with_reducible rfl | (simp +decide only [pvl]; done))) | ((with_reducible refine po_not' ?_ ?_); · (first | with_reducible rfl | (simp +decide only [pvl]; done))) | ((with_reducible refine pcond_tt ?_ ?_); · (first | with_reducible rfl | (simp +decide only [pvl]; done))) | ((with_reducible refine pcond_ff ?_ ?_); · (first | with_reducible rfl | (simp +decide only [pvl]; done))) | ((with_reducible apply po_loadE); (· rfl); (· rfl)) | ((with_reducible apply po_load); (· rfl); (· first | exact if_pos rfl | (refine (if_neg ?_).trans (if_pos rfl); assumption) | (refine (if_neg ?_).trans ((if_neg ?_).trans (if_pos rfl)) <;> assumption)); (· rfl)) | ((with_reducible apply po_store); (· rfl); (· rfl); (· first | exact if_pos rfl | (refine (if_neg ?_).trans (if_pos rfl); assumption) | (refine (if_neg ?_).trans ((if_neg ?_).trans (if_pos rfl)) <;> assumption)); (· exact ⟨rfl, rfl⟩); (· exact of_decide_eq_true rfl); (· rfl); (· exact fun _ _ h => False.elim h)) | (with_reducible refine pnil ?_) | ((with_reducible refine pnext ?_); try simp +decide only [pvl]) | ((fail_if_success (with_reducible refine pseqk ?_)); (with_reducible refine pseq ?_)) | ((with_reducible refine pkeep ?_); (try simp +decide only [pvl, pvt])) | (with_reducible refine pregion ?_) | (with_reducible refine pskip ?_) | (with_reducible refine pret_ ?_) | (with_reducible refine pnext_ret ?_) | (with_reducible refine pexit_ ?_) | (with_reducible refine pnext_exit ?_) | (with_reducible refine pblock_ret ?_) | (with_reducible refine pblock_normal ?_) | (with_reducible refine pexit_in ?_) | (with_reducible refine pexit_out rfl ?_))
  by_cases h0 : okM l = 0
  · have e0 : (okM l != 0) = false := by simp [h0]
    rw [e0]
    repeat (first | (with_reducible refine po_movt ?_) | (with_reducible refine po_movc ?_) | ((with_reducible apply po_lenI); · rfl) | ((with_reducible apply po); (· rfl); (· rfl)) | ((with_reducible refine po_yt ?_ ?_); · (first | with_reducible rfl | (simp +decide only [pvl]; done))) | ((with_reducible refine po_yf ?_ ?_); · (first | with_reducible rfl | (simp +decide only [pvl]; done))) | ((with_reducible refine po_nt ?_ ?_); · (first | with_reducible rfl | (simp +decide only [pvl]; done))) | ((with_reducible refine po_nf ?_ ?_); · (first | with_reducible rfl | (simp +decide only [pvl]; done))) | ((with_reducible refine po_not' ?_ ?_); · (first | with_reducible rfl | (simp +decide only [pvl]; done))) | ((with_reducible refine pcond_tt ?_ ?_); · (first | with_reducible rfl | (simp +decide only [pvl]; done))) | ((with_reducible refine pcond_ff ?_ ?_); · (first | with_reducible rfl | (simp +decide only [pvl]; done))) | ((with_reducible apply po_loadE); (· rfl); (· rfl)) | ((with_reducible apply po_load); (· rfl); (· first | exact if_pos rfl | (refine (if_neg ?_).trans (if_pos rfl); assumption) | (refine (if_neg ?_).trans ((if_neg ?_).trans (if_pos rfl)) <;> assumption)); (· rfl)) | ((with_reducible apply po_store); (· rfl); (· rfl); (· first | exact if_pos rfl | (refine (if_neg ?_).trans (if_pos rfl); assumption) | (refine (if_neg ?_).trans ((if_neg ?_).trans (if_pos rfl)) <;> assumption)); (· exact ⟨rfl, rfl⟩); (· exact of_decide_eq_true rfl); (· rfl); (· exact fun _ _ h => False.elim h)) | (with_reducible refine pnil ?_) | ((with_reducible refine pnext ?_); try simp +decide only [pvl]) | ((fail_if_success (with_reducible refine pseqk ?_)); (with_reducible refine pseq ?_)) | ((with_reducible refine pkeep ?_); (try simp +decide only [pvl, pvt])) | (with_reducible refine pregion ?_) | (with_reducible refine pskip ?_) | (with_reducible refine pret_ ?_) | (with_reducible refine pnext_ret ?_) | (with_reducible refine pexit_ ?_) | (with_reducible refine pnext_exit ?_) | (with_reducible refine pblock_ret ?_) | (with_reducible refine pblock_normal ?_) | (with_reducible refine pexit_in ?_) | (with_reducible refine pexit_out rfl ?_))
    refine po_callp rfl (C10 num ms l hm hl) ?_
    repeat (first | (with_reducible refine po_movt ?_) | (with_reducible refine po_movc ?_) | ((with_reducible apply po_lenI); · rfl) | ((with_reducible apply po); (· rfl); (· rfl)) | ((with_reducible refine po_yt ?_ ?_); · (first | with_reducible rfl | (simp +decide only [pvl]; done))) | ((with_reducible refine po_yf ?_ ?_); · (first | with_reducible rfl | (simp +decide only [pvl]; done))) | ((with_reducible refine po_nt ?_ ?_); · (first | with_reducible rfl | (simp +decide only [pvl]; done))) | ((with_reducible refine po_nf ?_ ?_); · (first | with_reducible rfl | (simp +decide only [pvl]; done))) | ((with_reducible refine po_not' ?_ ?_); · (first | with_reducible rfl | (simp +decide only [pvl]; done))) | ((with_reducible refine pcond_tt ?_ ?_); · (first | with_reducible rfl | (simp +decide only [pvl]; done))) | ((with_reducible refine pcond_ff ?_ ?_); · (first | with_reducible rfl | (simp +decide only [pvl]; done))) | ((with_reducible apply po_loadE); (· rfl); (· rfl)) | ((with_reducible apply po_load); (· rfl); (· first | exact if_pos rfl | (refine (if_neg ?_).trans (if_pos rfl); assumption) | (refine (if_neg ?_).trans ((if_neg ?_).trans (if_pos rfl)) <;> assumption)); (· rfl)) | ((with_reducible apply po_store); (· rfl); (· rfl); (· first | exact if_pos rfl | (refine (if_neg ?_).trans (if_pos rfl); assumption) | (refine (if_neg ?_).trans ((if_neg ?_).trans (if_pos rfl)) <;> assumption)); (· exact ⟨rfl, rfl⟩); (· exact of_decide_eq_true rfl); (· rfl); (· exact fun _ _ h => False.elim h)) | (with_reducible refine pnil ?_) | ((with_reducible refine pnext ?_); try simp +decide only [pvl]) | ((fail_if_success (with_reducible refine pseqk ?_)); (with_reducible refine pseq ?_)) | ((with_reducible refine pkeep ?_); (try simp +decide only [pvl, pvt])) | (with_reducible refine pregion ?_) | (with_reducible refine pskip ?_) | (with_reducible refine pret_ ?_) | (with_reducible refine pnext_ret ?_) | (with_reducible refine pexit_ ?_) | (with_reducible refine pnext_exit ?_) | (with_reducible refine pblock_ret ?_) | (with_reducible refine pblock_normal ?_) | (with_reducible refine pexit_in ?_) | (with_reducible refine pexit_out rfl ?_))
    by_cases h1 : (ms.length : Int) < 2 * cnt ms l
    · rw [decide_eq_true h1]
      have hlen := okM_len h0
      have hw : IntKind.i64.wrap (num + 1) = num + 1 := IntWalk.i64_in _ (by omega)
      repeat (first | (with_reducible refine po_movt ?_) | (with_reducible refine po_movc ?_) | ((with_reducible apply po_lenI); · rfl) | ((with_reducible apply po); (· rfl); (· rfl)) | ((with_reducible refine po_yt ?_ ?_); · (first | with_reducible rfl | (simp +decide only [pvl]; done))) | ((with_reducible refine po_yf ?_ ?_); · (first | with_reducible rfl | (simp +decide only [pvl]; done))) | ((with_reducible refine po_nt ?_ ?_); · (first | with_reducible rfl | (simp +decide only [pvl]; done))) | ((with_reducible refine po_nf ?_ ?_); · (first | with_reducible rfl | (simp +decide only [pvl]; done))) | ((with_reducible refine po_not' ?_ ?_); · (first | with_reducible rfl | (simp +decide only [pvl]; done))) | ((with_reducible refine pcond_tt ?_ ?_); · (first | with_reducible rfl | (simp +decide only [pvl]; done))) | ((with_reducible refine pcond_ff ?_ ?_); · (first | with_reducible rfl | (simp +decide only [pvl]; done))) | ((with_reducible apply po_loadE); (· rfl); (· rfl)) | ((with_reducible apply po_load); (· rfl); (· first | exact if_pos rfl | (refine (if_neg ?_).trans (if_pos rfl); assumption) | (refine (if_neg ?_).trans ((if_neg ?_).trans (if_pos rfl)) <;> assumption)); (· rfl)) | ((with_reducible apply po_store); (· rfl); (· rfl); (· first | exact if_pos rfl | (refine (if_neg ?_).trans (if_pos rfl); assumption) | (refine (if_neg ?_).trans ((if_neg ?_).trans (if_pos rfl)) <;> assumption)); (· exact ⟨rfl, rfl⟩); (· exact of_decide_eq_true rfl); (· rfl); (· exact fun _ _ h => False.elim h)) | (with_reducible refine pnil ?_) | ((with_reducible refine pnext ?_); try simp +decide only [pvl]) | ((fail_if_success (with_reducible refine pseqk ?_)); (with_reducible refine pseq ?_)) | ((with_reducible refine pkeep ?_); (try simp +decide only [pvl, pvt])) | (with_reducible refine pregion ?_) | (with_reducible refine pskip ?_) | (with_reducible refine pret_ ?_) | (with_reducible refine pnext_ret ?_) | (with_reducible refine pexit_ ?_) | (with_reducible refine pnext_exit ?_) | (with_reducible refine pblock_ret ?_) | (with_reducible refine pblock_normal ?_) | (with_reducible refine pexit_in ?_) | (with_reducible refine pexit_out rfl ?_))
      refine po_callp rfl (C21 l (by intro e; subst e; simp at hlen) (by omega)) ?_
      repeat (first | (with_reducible refine po_movt ?_) | (with_reducible refine po_movc ?_) | ((with_reducible apply po_lenI); · rfl) | ((with_reducible apply po); (· rfl); (· rfl)) | ((with_reducible refine po_yt ?_ ?_); · (first | with_reducible rfl | (simp +decide only [pvl]; done))) | ((with_reducible refine po_yf ?_ ?_); · (first | with_reducible rfl | (simp +decide only [pvl]; done))) | ((with_reducible refine po_nt ?_ ?_); · (first | with_reducible rfl | (simp +decide only [pvl]; done))) | ((with_reducible refine po_nf ?_ ?_); · (first | with_reducible rfl | (simp +decide only [pvl]; done))) | ((with_reducible refine po_not' ?_ ?_); · (first | with_reducible rfl | (simp +decide only [pvl]; done))) | ((with_reducible refine pcond_tt ?_ ?_); · (first | with_reducible rfl | (simp +decide only [pvl]; done))) | ((with_reducible refine pcond_ff ?_ ?_); · (first | with_reducible rfl | (simp +decide only [pvl]; done))) | ((with_reducible apply po_loadE); (· rfl); (· rfl)) | ((with_reducible apply po_load); (· rfl); (· first | exact if_pos rfl | (refine (if_neg ?_).trans (if_pos rfl); assumption) | (refine (if_neg ?_).trans ((if_neg ?_).trans (if_pos rfl)) <;> assumption)); (· rfl)) | ((with_reducible apply po_store); (· rfl); (· rfl); (· first | exact if_pos rfl | (refine (if_neg ?_).trans (if_pos rfl); assumption) | (refine (if_neg ?_).trans ((if_neg ?_).trans (if_pos rfl)) <;> assumption)); (· exact ⟨rfl, rfl⟩); (· exact of_decide_eq_true rfl); (· rfl); (· exact fun _ _ h => False.elim h)) | (with_reducible refine pnil ?_) | ((with_reducible refine pnext ?_); try simp +decide only [pvl]) | ((fail_if_success (with_reducible refine pseqk ?_)); (with_reducible refine pseq ?_)) | ((with_reducible refine pkeep ?_); (try simp +decide only [pvl, pvt])) | (with_reducible refine pregion ?_) | (with_reducible refine pskip ?_) | (with_reducible refine pret_ ?_) | (with_reducible refine pnext_ret ?_) | (with_reducible refine pexit_ ?_) | (with_reducible refine pnext_exit ?_) | (with_reducible refine pblock_ret ?_) | (with_reducible refine pblock_normal ?_) | (with_reducible refine pexit_in ?_) | (with_reducible refine pexit_out rfl ?_))
      rw [hw]
      refine pfin_pure (by rw [nextV, if_pos ⟨h0, h1⟩]; exact pret_two (pres_cell rfl (if_pos rfl) rfl) rfl) (hle2 _)
    · rw [decide_eq_false h1]
      repeat (first | (with_reducible refine po_movt ?_) | (with_reducible refine po_movc ?_) | ((with_reducible apply po_lenI); · rfl) | ((with_reducible apply po); (· rfl); (· rfl)) | ((with_reducible refine po_yt ?_ ?_); · (first | with_reducible rfl | (simp +decide only [pvl]; done))) | ((with_reducible refine po_yf ?_ ?_); · (first | with_reducible rfl | (simp +decide only [pvl]; done))) | ((with_reducible refine po_nt ?_ ?_); · (first | with_reducible rfl | (simp +decide only [pvl]; done))) | ((with_reducible refine po_nf ?_ ?_); · (first | with_reducible rfl | (simp +decide only [pvl]; done))) | ((with_reducible refine po_not' ?_ ?_); · (first | with_reducible rfl | (simp +decide only [pvl]; done))) | ((with_reducible refine pcond_tt ?_ ?_); · (first | with_reducible rfl | (simp +decide only [pvl]; done))) | ((with_reducible refine pcond_ff ?_ ?_); · (first | with_reducible rfl | (simp +decide only [pvl]; done))) | ((with_reducible apply po_loadE); (· rfl); (· rfl)) | ((with_reducible apply po_load); (· rfl); (· first | exact if_pos rfl | (refine (if_neg ?_).trans (if_pos rfl); assumption) | (refine (if_neg ?_).trans ((if_neg ?_).trans (if_pos rfl)) <;> assumption)); (· rfl)) | ((with_reducible apply po_store); (· rfl); (· rfl); (· first | exact if_pos rfl | (refine (if_neg ?_).trans (if_pos rfl); assumption) | (refine (if_neg ?_).trans ((if_neg ?_).trans (if_pos rfl)) <;> assumption)); (· exact ⟨rfl, rfl⟩); (· exact of_decide_eq_true rfl); (· rfl); (· exact fun _ _ h => False.elim h)) | (with_reducible refine pnil ?_) | ((with_reducible refine pnext ?_); try simp +decide only [pvl]) | ((fail_if_success (with_reducible refine pseqk ?_)); (with_reducible refine pseq ?_)) | ((with_reducible refine pkeep ?_); (try simp +decide only [pvl, pvt])) | (with_reducible refine pregion ?_) | (with_reducible refine pskip ?_) | (with_reducible refine pret_ ?_) | (with_reducible refine pnext_ret ?_) | (with_reducible refine pexit_ ?_) | (with_reducible refine pnext_exit ?_) | (with_reducible refine pblock_ret ?_) | (with_reducible refine pblock_normal ?_) | (with_reducible refine pexit_in ?_) | (with_reducible refine pexit_out rfl ?_))
      refine pfin_pure (by rw [nextV, if_neg (fun h => h1 h.2)]; exact pret_two (pres_cell rfl (if_pos rfl) rfl) rfl) (hle2 _)
  · have e0 : (okM l != 0) = true := by simp [h0]
    rw [e0]
    repeat (first | (with_reducible refine po_movt ?_) | (with_reducible refine po_movc ?_) | ((with_reducible apply po_lenI); · rfl) | ((with_reducible apply po); (· rfl); (· rfl)) | ((with_reducible refine po_yt ?_ ?_); · (first | with_reducible rfl | (simp +decide only [pvl]; done))) | ((with_reducible refine po_yf ?_ ?_); · (first | with_reducible rfl | (simp +decide only [pvl]; done))) | ((with_reducible refine po_nt ?_ ?_); · (first | with_reducible rfl | (simp +decide only [pvl]; done))) | ((with_reducible refine po_nf ?_ ?_); · (first | with_reducible rfl | (simp +decide only [pvl]; done))) | ((with_reducible refine po_not' ?_ ?_); · (first | with_reducible rfl | (simp +decide only [pvl]; done))) | ((with_reducible refine pcond_tt ?_ ?_); · (first | with_reducible rfl | (simp +decide only [pvl]; done))) | ((with_reducible refine pcond_ff ?_ ?_); · (first | with_reducible rfl | (simp +decide only [pvl]; done))) | ((with_reducible apply po_loadE); (· rfl); (· rfl)) | ((with_reducible apply po_load); (· rfl); (· first | exact if_pos rfl | (refine (if_neg ?_).trans (if_pos rfl); assumption) | (refine (if_neg ?_).trans ((if_neg ?_).trans (if_pos rfl)) <;> assumption)); (· rfl)) | ((with_reducible apply po_store); (· rfl); (· rfl); (· first | exact if_pos rfl | (refine (if_neg ?_).trans (if_pos rfl); assumption) | (refine (if_neg ?_).trans ((if_neg ?_).trans (if_pos rfl)) <;> assumption)); (· exact ⟨rfl, rfl⟩); (· exact of_decide_eq_true rfl); (· rfl); (· exact fun _ _ h => False.elim h)) | (with_reducible refine pnil ?_) | ((with_reducible refine pnext ?_); try simp +decide only [pvl]) | ((fail_if_success (with_reducible refine pseqk ?_)); (with_reducible refine pseq ?_)) | ((with_reducible refine pkeep ?_); (try simp +decide only [pvl, pvt])) | (with_reducible refine pregion ?_) | (with_reducible refine pskip ?_) | (with_reducible refine pret_ ?_) | (with_reducible refine pnext_ret ?_) | (with_reducible refine pexit_ ?_) | (with_reducible refine pnext_exit ?_) | (with_reducible refine pblock_ret ?_) | (with_reducible refine pblock_normal ?_) | (with_reducible refine pexit_in ?_) | (with_reducible refine pexit_out rfl ?_))
    refine pfin_pure (by rw [nextV, if_neg (fun h => h0 h.1)]; exact pret_two (pres_cell rfl (if_pos rfl) rfl) rfl) (hle2 _)

theorem nextV_ok {num : Int} {ms l : List Int} (h0 : okM l = 0) (h1 : (ms.length : Int) < 2 * cnt ms l) : nextV num ms l = .tup [view (num + 1) l, b2 true] := if_pos ⟨h0, h1⟩

theorem C8 : Pure (PCalls Try.prog GG) 8 [] (b2 true) := by
  intro st
  refine pcalls_of k8 e8 (of_decide_eq_true rfl) ?_
  dsimp only [c8]
  repeat (first | (with_reducible refine po_movt ?_) | (with_reducible refine po_movc ?_) | ((with_reducible apply po_lenI); · rfl) | ((with_reducible apply po); (· rfl); (· rfl)) | ((with_reducible refine po_yt ?_ ?_); · (first | with_reducible rfl | (simp +decide only [pvl]; done))) | ((with_reducible refine po_yf ?_ ?_); · (first | with_reducible rfl | (simp +decide only [pvl]; done))) | ((with_reducible refine po_nt ?_ ?_); · (first | with_reducible rfl | (simp +decide only [pvl]; done))) | ((with_reducible refine po_nf ?_ ?_); · (first | with_reducible rfl | (simp +decide only [pvl]; done))) | ((with_reducible refine po_not' ?_ ?_); · (first | with_reducible rfl | (simp +decide only [pvl]; done))) | ((with_reducible refine pcond_tt ?_ ?_); · (first | with_reducible rfl | (simp +decide only [pvl]; done))) | ((with_reducible refine pcond_ff ?_ ?_); · (first | with_reducible rfl | (simp +decide only [pvl]; done))) | ((with_reducible apply po_loadE); (· rfl); (· rfl)) | ((with_reducible apply po_load); (· rfl); (· first | exact if_pos rfl | (refine (if_neg ?_).trans (if_pos rfl); assumption) | (refine (if_neg ?_).trans ((if_neg ?_).trans (if_pos rfl)) <;> assumption)); (· rfl)) | ((with_reducible apply po_store); (· rfl); (· rfl); (· first | exact if_pos rfl | (refine (if_neg ?_).trans (if_pos rfl); assumption) | (refine (if_neg ?_).trans ((if_neg ?_).trans (if_pos rfl)) <;> assumption)); (· exact ⟨rfl, rfl⟩); (· exact of_decide_eq_true rfl); (· rfl); (· exact fun _ _ h => False.elim h)) | (with_reducible refine pnil ?_) | ((with_reducible refine pnext ?_); try simp +decide only [pvl]) | ((fail_if_success (with_reducible refine pseqk ?_)); (with_reducible refine pseq ?_)) | ((with_reducible refine pkeep ?_); (try simp +decide only [pvl, pvt])) | (with_reducible refine pregion ?_) | (with_reducible refine pskip ?_) | (with_reducible refine pret_ ?_) | (with_reducible refine pnext_ret ?_) | (with_reducible refine pexit_ ?_) | (with_reducible refine pnext_exit ?_) | (with_reducible refine pblock_ret ?_) | (with_reducible refine pblock_normal ?_) | (with_reducible refine pexit_in ?_) | (with_reducible refine pexit_out rfl ?_))
  refine po_callp rfl (C12 0 [0, 1, 2] [1, 2, 5] (by decide) (by decide) (by omega)) ?_
  rw [nextV_ok (by decide) (by decide)]
  repeat (first | (with_reducible refine po_movt ?_) | (with_reducible refine po_movc ?_) | ((with_reducible apply po_lenI); · rfl) | ((with_reducible apply po); (· rfl); (· rfl)) | ((with_reducible refine po_yt ?_ ?_); · (first | with_reducible rfl | (simp +decide only [pvl]; done))) | ((with_reducible refine po_yf ?_ ?_); · (first | with_reducible rfl | (simp +decide only [pvl]; done))) | ((with_reducible refine po_nt ?_ ?_); · (first | with_reducible rfl | (simp +decide only [pvl]; done))) | ((with_reducible refine po_nf ?_ ?_); · (first | with_reducible rfl | (simp +decide only [pvl]; done))) | ((with_reducible refine po_not' ?_ ?_); · (first | with_reducible rfl | (simp +decide only [pvl]; done))) | ((with_reducible refine pcond_tt ?_ ?_); · (first | with_reducible rfl | (simp +decide only [pvl]; done))) | ((with_reducible refine pcond_ff ?_ ?_); · (first | with_reducible rfl | (simp +decide only [pvl]; done))) | ((with_reducible apply po_loadE); (· rfl); (· rfl)) | ((with_reducible apply po_load); (· rfl); (· first | exact if_pos rfl | (refine (if_neg ?_).trans (if_pos rfl); assumption) | (refine (if_neg ?_).trans ((if_neg ?_).trans (if_pos rfl)) <;> assumption)); (· rfl)) | ((with_reducible apply po_store); (· rfl); (· rfl); (· first | exact if_pos rfl | (refine (if_neg ?_).trans (if_pos rfl); assumption) | (refine (if_neg ?_).trans ((if_neg ?_).trans (if_pos rfl)) <;> assumption)); (· exact ⟨rfl, rfl⟩); (· exact of_decide_eq_true rfl); (· rfl); (· exact fun _ _ h => False.elim h)) | (with_reducible refine pnil ?_) | ((with_reducible refine pnext ?_); try simp +decide only [pvl]) | ((fail_if_success (with_reducible refine pseqk ?_)); (with_reducible refine pseq ?_)) | ((with_reducible refine pkeep ?_); (try simp +decide only [pvl, pvt])) | (with_reducible refine pregion ?_) | (with_reducible refine pskip ?_) | (with_reducible refine pret_ ?_) | (with_reducible refine pnext_ret ?_) | (with_reducible refine pexit_ ?_) | (with_reducible refine pnext_exit ?_) | (with_reducible refine pblock_ret ?_) | (with_reducible refine pblock_normal ?_) | (with_reducible refine pexit_in ?_) | (with_reducible refine pexit_out rfl ?_))
  refine po_alloc fun b hb => ?_
  repeat (first | (with_reducible refine po_movt ?_) | (with_reducible refine po_movc ?_) | ((with_reducible apply po_lenI); · rfl) | ((with_reducible apply po); (· rfl); (· rfl)) | ((with_reducible refine po_yt ?_ ?_); · (first | with_reducible rfl | (simp +decide only [pvl]; done))) | ((with_reducible refine po_yf ?_ ?_); · (first | with_reducible rfl | (simp +decide only [pvl]; done))) | ((with_reducible refine po_nt ?_ ?_); · (first | with_reducible rfl | (simp +decide only [pvl]; done))) | ((with_reducible refine po_nf ?_ ?_); · (first | with_reducible rfl | (simp +decide only [pvl]; done))) | ((with_reducible refine po_not' ?_ ?_); · (first | with_reducible rfl | (simp +decide only [pvl]; done))) | ((with_reducible refine pcond_tt ?_ ?_); · (first | with_reducible rfl | (simp +decide only [pvl]; done))) | ((with_reducible refine pcond_ff ?_ ?_); · (first | with_reducible rfl | (simp +decide only [pvl]; done))) | ((with_reducible apply po_loadE); (· rfl); (· rfl)) | ((with_reducible apply po_load); (· rfl); (· first | exact if_pos rfl | (refine (if_neg ?_).trans (if_pos rfl); assumption) | (refine (if_neg ?_).trans ((if_neg ?_).trans (if_pos rfl)) <;> assumption)); (· rfl)) | ((with_reducible apply po_store); (· rfl); (· rfl); (· first | exact if_pos rfl | (refine (if_neg ?_).trans (if_pos rfl); assumption) | (refine (if_neg ?_).trans ((if_neg ?_).trans (if_pos rfl)) <;> assumption)); (· exact ⟨rfl, rfl⟩); (· exact of_decide_eq_true rfl); (· rfl); (· exact fun _ _ h => False.elim h)) | (with_reducible refine pnil ?_) | ((with_reducible refine pnext ?_); try simp +decide only [pvl]) | ((fail_if_success (with_reducible refine pseqk ?_)); (with_reducible refine pseq ?_)) | ((with_reducible refine pkeep ?_); (try simp +decide only [pvl, pvt])) | (with_reducible refine pregion ?_) | (with_reducible refine pskip ?_) | (with_reducible refine pret_ ?_) | (with_reducible refine pnext_ret ?_) | (with_reducible refine pexit_ ?_) | (with_reducible refine pnext_exit ?_) | (with_reducible refine pblock_ret ?_) | (with_reducible refine pblock_normal ?_) | (with_reducible refine pexit_in ?_) | (with_reducible refine pexit_out rfl ?_))
  rw [show ((0 : Int) + 1 == 1) = true from rfl]
  repeat (first | (with_reducible refine po_movt ?_) | (with_reducible refine po_movc ?_) | ((with_reducible apply po_lenI); · rfl) | ((with_reducible apply po); (· rfl); (· rfl)) | ((with_reducible refine po_yt ?_ ?_); · (first | with_reducible rfl | (simp +decide only [pvl]; done))) | ((with_reducible refine po_yf ?_ ?_); · (first | with_reducible rfl | (simp +decide only [pvl]; done))) | ((with_reducible refine po_nt ?_ ?_); · (first | with_reducible rfl | (simp +decide only [pvl]; done))) | ((with_reducible refine po_nf ?_ ?_); · (first | with_reducible rfl | (simp +decide only [pvl]; done))) | ((with_reducible refine po_not' ?_ ?_); · (first | with_reducible rfl | (simp +decide only [pvl]; done))) | ((with_reducible refine pcond_tt ?_ ?_); · (first | with_reducible rfl | (simp +decide only [pvl]; done))) | ((with_reducible refine pcond_ff ?_ ?_); · (first | with_reducible rfl | (simp +decide only [pvl]; done))) | ((with_reducible apply po_loadE); (· rfl); (· rfl)) | ((with_reducible apply po_load); (· rfl); (· first | exact if_pos rfl | (refine (if_neg ?_).trans (if_pos rfl); assumption) | (refine (if_neg ?_).trans ((if_neg ?_).trans (if_pos rfl)) <;> assumption)); (· rfl)) | ((with_reducible apply po_store); (· rfl); (· rfl); (· first | exact if_pos rfl | (refine (if_neg ?_).trans (if_pos rfl); assumption) | (refine (if_neg ?_).trans ((if_neg ?_).trans (if_pos rfl)) <;> assumption)); (· exact ⟨rfl, rfl⟩); (· exact of_decide_eq_true rfl); (· rfl); (· exact fun _ _ h => False.elim h)) | (with_reducible refine pnil ?_) | ((with_reducible refine pnext ?_); try simp +decide only [pvl]) | ((fail_if_success (with_reducible refine pseqk ?_)); (with_reducible refine pseq ?_)) | ((with_reducible refine pkeep ?_); (try simp +decide only [pvl, pvt])) | (with_reducible refine pregion ?_) | (with_reducible refine pskip ?_) | (with_reducible refine pret_ ?_) | (with_reducible refine pnext_ret ?_) | (with_reducible refine pexit_ ?_) | (with_reducible refine pnext_exit ?_) | (with_reducible refine pblock_ret ?_) | (with_reducible refine pblock_normal ?_) | (with_reducible refine pexit_in ?_) | (with_reducible refine pexit_out rfl ?_))
  rw [show (((([1, 2, 5] : List Int).length : Nat) : Int) == 3) = true from rfl]
  repeat (first | (with_reducible refine po_movt ?_) | (with_reducible refine po_movc ?_) | ((with_reducible apply po_lenI); · rfl) | ((with_reducible apply po); (· rfl); (· rfl)) | ((with_reducible refine po_yt ?_ ?_); · (first | with_reducible rfl | (simp +decide only [pvl]; done))) | ((with_reducible refine po_yf ?_ ?_); · (first | with_reducible rfl | (simp +decide only [pvl]; done))) | ((with_reducible refine po_nt ?_ ?_); · (first | with_reducible rfl | (simp +decide only [pvl]; done))) | ((with_reducible refine po_nf ?_ ?_); · (first | with_reducible rfl | (simp +decide only [pvl]; done))) | ((with_reducible refine po_not' ?_ ?_); · (first | with_reducible rfl | (simp +decide only [pvl]; done))) | ((with_reducible refine pcond_tt ?_ ?_); · (first | with_reducible rfl | (simp +decide only [pvl]; done))) | ((with_reducible refine pcond_ff ?_ ?_); · (first | with_reducible rfl | (simp +decide only [pvl]; done))) | ((with_reducible apply po_loadE); (· rfl); (· rfl)) | ((with_reducible apply po_load); (· rfl); (· first | exact if_pos rfl | (refine (if_neg ?_).trans (if_pos rfl); assumption) | (refine (if_neg ?_).trans ((if_neg ?_).trans (if_pos rfl)) <;> assumption)); (· rfl)) | ((with_reducible apply po_store); (· rfl); (· rfl); (· first | exact if_pos rfl | (refine (if_neg ?_).trans (if_pos rfl); assumption) | (refine (if_neg ?_).trans ((if_neg ?_).trans (if_pos rfl)) <;> assumption)); (· exact ⟨rfl, rfl⟩); (· exact of_decide_eq_true rfl); (· rfl); (· exact fun _ _ h => False.elim h)) | (with_reducible refine pnil ?_) | ((with_reducible refine pnext ?_); try simp +decide only [pvl]) | ((fail_if_success (with_reducible refine pseqk ?_)); (with_reducible refine pseq ?_)) | ((with_reducible refine pkeep ?_); (try simp +decide only [pvl, pvt])) | (with_reducible refine pregion ?_) | (with_reducible refine pskip ?_) | (with_reducible refine pret_ ?_) | (with_reducible refine pnext_ret ?_) | (with_reducible refine pexit_ ?_) | (with_reducible refine pnext_exit ?_) | (with_reducible refine pblock_ret ?_) | (with_reducible refine pblock_normal ?_) | (with_reducible refine pexit_in ?_) | (with_reducible refine pexit_out rfl ?_))
  refine po_callp rfl (C11 (0 + 1) [1, 2, 5] 5 (by decide)) ?_
  repeat (first | (with_reducible refine po_movt ?_) | (with_reducible refine po_movc ?_) | ((with_reducible apply po_lenI); · rfl) | ((with_reducible apply po); (· rfl); (· rfl)) | ((with_reducible refine po_yt ?_ ?_); · (first | with_reducible rfl | (simp +decide only [pvl]; done))) | ((with_reducible refine po_yf ?_ ?_); · (first | with_reducible rfl | (simp +decide only [pvl]; done))) | ((with_reducible refine po_nt ?_ ?_); · (first | with_reducible rfl | (simp +decide only [pvl]; done))) | ((with_reducible refine po_nf ?_ ?_); · (first | with_reducible rfl | (simp +decide only [pvl]; done))) | ((with_reducible refine po_not' ?_ ?_); · (first | with_reducible rfl | (simp +decide only [pvl]; done))) | ((with_reducible refine pcond_tt ?_ ?_); · (first | with_reducible rfl | (simp +decide only [pvl]; done))) | ((with_reducible refine pcond_ff ?_ ?_); · (first | with_reducible rfl | (simp +decide only [pvl]; done))) | ((with_reducible apply po_loadE); (· rfl); (· rfl)) | ((with_reducible apply po_load); (· rfl); (· first | exact if_pos rfl | (refine (if_neg ?_).trans (if_pos rfl); assumption) | (refine (if_neg ?_).trans ((if_neg ?_).trans (if_pos rfl)) <;> assumption)); (· rfl)) | ((with_reducible apply po_store); (· rfl); (· rfl); (· first | exact if_pos rfl | (refine (if_neg ?_).trans (if_pos rfl); assumption) | (refine (if_neg ?_).trans ((if_neg ?_).trans (if_pos rfl)) <;> assumption)); (· exact ⟨rfl, rfl⟩); (· exact of_decide_eq_true rfl); (· rfl); (· exact fun _ _ h => False.elim h)) | (with_reducible refine pnil ?_) | ((with_reducible refine pnext ?_); try simp +decide only [pvl]) | ((fail_if_success (with_reducible refine pseqk ?_)); (with_reducible refine pseq ?_)) | ((with_reducible refine pkeep ?_); (try simp +decide only [pvl, pvt])) | (with_reducible refine pregion ?_) | (with_reducible refine pskip ?_) | (with_reducible refine pret_ ?_) | (with_reducible refine pnext_ret ?_) | (with_reducible refine pexit_ ?_) | (with_reducible refine pnext_exit ?_) | (with_reducible refine pblock_ret ?_) | (with_reducible refine pblock_normal ?_) | (with_reducible refine pexit_in ?_) | (with_reducible refine pexit_out rfl ?_))
  exact pfin_pure rfl (((St.le.refl _).setBox _ hb.1).setBox _ hb.1)

theorem getElem_mem_take {l : List Int} {k : Nat} (hk : k < l.length) {n : Int} (h : n ∈ l.take (k + 1)) : n ∈ l.take k ∨ n = l[k] := by
  rw [List.take_succ_eq_append_getElem hk, List.mem_append, List.mem_singleton] at h
  exact h
/-- Two groups, each more than half, have one in common. -/
theorem cnt_common : ∀ (A B C : List Int), A.length < cnt A B + cnt A C → ∃ n, n ∈ A ∧ n ∈ B ∧ n ∈ C
  | [], _, _, h => by simp [cnt] at h
  | x :: A, B, C, h => by
    by_cases hB : x ∈ B
    · by_cases hC : x ∈ C
      · exact ⟨x, by simp, hB, hC⟩
      · have : A.length < cnt A B + cnt A C := by simp [cnt, hB, hC] at h ⊢; omega
        obtain ⟨n, h1, h2⟩ := cnt_common A B C this
        exact ⟨n, List.mem_cons_of_mem _ h1, h2⟩
    · have : A.length < cnt A B + cnt A C := by
        by_cases hC : x ∈ C
        · simp [cnt, hB, hC] at h ⊢; omega
        · simp [cnt, hB, hC] at h ⊢; omega
      obtain ⟨n, h1, h2⟩ := cnt_common A B C this
      exact ⟨n, List.mem_cons_of_mem _ h1, h2⟩

/-- The statement's function gives true. -/
theorem C3 (a b c : Int) : Pure (PCalls Try.prog GG) 3 [.d (.int .u16 a), .d (.int .u16 b), .d (.int .u16 c)] (b2 true) := by
  intro st
  have hA := memb_length a
  have hB := memb_length b
  have hC := memb_length c
  refine pcalls_of k3 e3 (of_decide_eq_true rfl) ?_
  dsimp only [c3]
  repeat (first | (with_reducible refine po_movt ?_) | (with_reducible refine po_movc ?_) | ((with_reducible apply po_lenI); · rfl) | ((with_reducible apply po); (· rfl); (· rfl)) | ((with_reducible refine po_yt ?_ ?_); · (first | with_reducible rfl | (simp +decide only [pvl]; done))) | ((with_reducible refine po_yf ?_ ?_); · (first | with_reducible rfl | (simp +decide only [pvl]; done))) | ((with_reducible refine po_nt ?_ ?_); · (first | with_reducible rfl | (simp +decide only [pvl]; done))) | ((with_reducible refine po_nf ?_ ?_); · (first | with_reducible rfl | (simp +decide only [pvl]; done))) | ((with_reducible refine po_not' ?_ ?_); · (first | with_reducible rfl | (simp +decide only [pvl]; done))) | ((with_reducible refine pcond_tt ?_ ?_); · (first | with_reducible rfl | (simp +decide only [pvl]; done))) | ((with_reducible refine pcond_ff ?_ ?_); · (first | with_reducible rfl | (simp +decide only [pvl]; done))) | ((with_reducible apply po_loadE); (· rfl); (· rfl)) | ((with_reducible apply po_load); (· rfl); (· first | exact if_pos rfl | (refine (if_neg ?_).trans (if_pos rfl); assumption) | (refine (if_neg ?_).trans ((if_neg ?_).trans (if_pos rfl)) <;> assumption)); (· rfl)) | ((with_reducible apply po_store); (· rfl); (· rfl); (· first | exact if_pos rfl | (refine (if_neg ?_).trans (if_pos rfl); assumption) | (refine (if_neg ?_).trans ((if_neg ?_).trans (if_pos rfl)) <;> assumption)); (· exact ⟨rfl, rfl⟩); (· exact of_decide_eq_true rfl); (· rfl); (· exact fun _ _ h => False.elim h)) | (with_reducible refine pnil ?_) | ((with_reducible refine pnext ?_); try simp +decide only [pvl]) | ((fail_if_success (with_reducible refine pseqk ?_)); (with_reducible refine pseq ?_)) | ((with_reducible refine pkeep ?_); (try simp +decide only [pvl, pvt])) | (with_reducible refine pregion ?_) | (with_reducible refine pskip ?_) | (with_reducible refine pret_ ?_) | (with_reducible refine pnext_ret ?_) | (with_reducible refine pexit_ ?_) | (with_reducible refine pnext_exit ?_) | (with_reducible refine pblock_ret ?_) | (with_reducible refine pblock_normal ?_) | (with_reducible refine pexit_in ?_) | (with_reducible refine pexit_out rfl ?_))
  refine po_call rfl C8 (fun _ _ h => False.elim h) ?_
  repeat (first | (with_reducible refine po_movt ?_) | (with_reducible refine po_movc ?_) | ((with_reducible apply po_lenI); · rfl) | ((with_reducible apply po); (· rfl); (· rfl)) | ((with_reducible refine po_yt ?_ ?_); · (first | with_reducible rfl | (simp +decide only [pvl]; done))) | ((with_reducible refine po_yf ?_ ?_); · (first | with_reducible rfl | (simp +decide only [pvl]; done))) | ((with_reducible refine po_nt ?_ ?_); · (first | with_reducible rfl | (simp +decide only [pvl]; done))) | ((with_reducible refine po_nf ?_ ?_); · (first | with_reducible rfl | (simp +decide only [pvl]; done))) | ((with_reducible refine po_not' ?_ ?_); · (first | with_reducible rfl | (simp +decide only [pvl]; done))) | ((with_reducible refine pcond_tt ?_ ?_); · (first | with_reducible rfl | (simp +decide only [pvl]; done))) | ((with_reducible refine pcond_ff ?_ ?_); · (first | with_reducible rfl | (simp +decide only [pvl]; done))) | ((with_reducible apply po_loadE); (· rfl); (· rfl)) | ((with_reducible apply po_load); (· rfl); (· first | exact if_pos rfl | (refine (if_neg ?_).trans (if_pos rfl); assumption) | (refine (if_neg ?_).trans ((if_neg ?_).trans (if_pos rfl)) <;> assumption)); (· rfl)) | ((with_reducible apply po_store); (· rfl); (· rfl); (· first | exact if_pos rfl | (refine (if_neg ?_).trans (if_pos rfl); assumption) | (refine (if_neg ?_).trans ((if_neg ?_).trans (if_pos rfl)) <;> assumption)); (· exact ⟨rfl, rfl⟩); (· exact of_decide_eq_true rfl); (· rfl); (· exact fun _ _ h => False.elim h)) | (with_reducible refine pnil ?_) | ((with_reducible refine pnext ?_); try simp +decide only [pvl]) | ((fail_if_success (with_reducible refine pseqk ?_)); (with_reducible refine pseq ?_)) | ((with_reducible refine pkeep ?_); (try simp +decide only [pvl, pvt])) | (with_reducible refine pregion ?_) | (with_reducible refine pskip ?_) | (with_reducible refine pret_ ?_) | (with_reducible refine pnext_ret ?_) | (with_reducible refine pexit_ ?_) | (with_reducible refine pnext_exit ?_) | (with_reducible refine pblock_ret ?_) | (with_reducible refine pblock_normal ?_) | (with_reducible refine pexit_in ?_) | (with_reducible refine pexit_out rfl ?_))
  refine po_call rfl (C9 a) (fun _ _ h => False.elim h) ?_
  repeat (first | (with_reducible refine po_movt ?_) | (with_reducible refine po_movc ?_) | ((with_reducible apply po_lenI); · rfl) | ((with_reducible apply po); (· rfl); (· rfl)) | ((with_reducible refine po_yt ?_ ?_); · (first | with_reducible rfl | (simp +decide only [pvl]; done))) | ((with_reducible refine po_yf ?_ ?_); · (first | with_reducible rfl | (simp +decide only [pvl]; done))) | ((with_reducible refine po_nt ?_ ?_); · (first | with_reducible rfl | (simp +decide only [pvl]; done))) | ((with_reducible refine po_nf ?_ ?_); · (first | with_reducible rfl | (simp +decide only [pvl]; done))) | ((with_reducible refine po_not' ?_ ?_); · (first | with_reducible rfl | (simp +decide only [pvl]; done))) | ((with_reducible refine pcond_tt ?_ ?_); · (first | with_reducible rfl | (simp +decide only [pvl]; done))) | ((with_reducible refine pcond_ff ?_ ?_); · (first | with_reducible rfl | (simp +decide only [pvl]; done))) | ((with_reducible apply po_loadE); (· rfl); (· rfl)) | ((with_reducible apply po_load); (· rfl); (· first | exact if_pos rfl | (refine (if_neg ?_).trans (if_pos rfl); assumption) | (refine (if_neg ?_).trans ((if_neg ?_).trans (if_pos rfl)) <;> assumption)); (· rfl)) | ((with_reducible apply po_store); (· rfl); (· rfl); (· first | exact if_pos rfl | (refine (if_neg ?_).trans (if_pos rfl); assumption) | (refine (if_neg ?_).trans ((if_neg ?_).trans (if_pos rfl)) <;> assumption)); (· exact ⟨rfl, rfl⟩); (· exact of_decide_eq_true rfl); (· rfl); (· exact fun _ _ h => False.elim h)) | (with_reducible refine pnil ?_) | ((with_reducible refine pnext ?_); try simp +decide only [pvl]) | ((fail_if_success (with_reducible refine pseqk ?_)); (with_reducible refine pseq ?_)) | ((with_reducible refine pkeep ?_); (try simp +decide only [pvl, pvt])) | (with_reducible refine pregion ?_) | (with_reducible refine pskip ?_) | (with_reducible refine pret_ ?_) | (with_reducible refine pnext_ret ?_) | (with_reducible refine pexit_ ?_) | (with_reducible refine pnext_exit ?_) | (with_reducible refine pblock_ret ?_) | (with_reducible refine pblock_normal ?_) | (with_reducible refine pexit_in ?_) | (with_reducible refine pexit_out rfl ?_))
  refine po_alloc fun v hv => ?_
  repeat (first | (with_reducible refine po_movt ?_) | (with_reducible refine po_movc ?_) | ((with_reducible apply po_lenI); · rfl) | ((with_reducible apply po); (· rfl); (· rfl)) | ((with_reducible refine po_yt ?_ ?_); · (first | with_reducible rfl | (simp +decide only [pvl]; done))) | ((with_reducible refine po_yf ?_ ?_); · (first | with_reducible rfl | (simp +decide only [pvl]; done))) | ((with_reducible refine po_nt ?_ ?_); · (first | with_reducible rfl | (simp +decide only [pvl]; done))) | ((with_reducible refine po_nf ?_ ?_); · (first | with_reducible rfl | (simp +decide only [pvl]; done))) | ((with_reducible refine po_not' ?_ ?_); · (first | with_reducible rfl | (simp +decide only [pvl]; done))) | ((with_reducible refine pcond_tt ?_ ?_); · (first | with_reducible rfl | (simp +decide only [pvl]; done))) | ((with_reducible refine pcond_ff ?_ ?_); · (first | with_reducible rfl | (simp +decide only [pvl]; done))) | ((with_reducible apply po_loadE); (· rfl); (· rfl)) | ((with_reducible apply po_load); (· rfl); (· first | exact if_pos rfl | (refine (if_neg ?_).trans (if_pos rfl); assumption) | (refine (if_neg ?_).trans ((if_neg ?_).trans (if_pos rfl)) <;> assumption)); (· rfl)) | ((with_reducible apply po_store); (· rfl); (· rfl); (· first | exact if_pos rfl | (refine (if_neg ?_).trans (if_pos rfl); assumption) | (refine (if_neg ?_).trans ((if_neg ?_).trans (if_pos rfl)) <;> assumption)); (· exact ⟨rfl, rfl⟩); (· exact of_decide_eq_true rfl); (· rfl); (· exact fun _ _ h => False.elim h)) | (with_reducible refine pnil ?_) | ((with_reducible refine pnext ?_); try simp +decide only [pvl]) | ((fail_if_success (with_reducible refine pseqk ?_)); (with_reducible refine pseq ?_)) | ((with_reducible refine pkeep ?_); (try simp +decide only [pvl, pvt])) | (with_reducible refine pregion ?_) | (with_reducible refine pskip ?_) | (with_reducible refine pret_ ?_) | (with_reducible refine pnext_ret ?_) | (with_reducible refine pexit_ ?_) | (with_reducible refine pnext_exit ?_) | (with_reducible refine pblock_ret ?_) | (with_reducible refine pblock_normal ?_) | (with_reducible refine pexit_in ?_) | (with_reducible refine pexit_out rfl ?_))
  refine po_call rfl (C9 b) (fun _ _ h => False.elim h) ?_
  repeat (first | (with_reducible refine po_movt ?_) | (with_reducible refine po_movc ?_) | ((with_reducible apply po_lenI); · rfl) | ((with_reducible apply po); (· rfl); (· rfl)) | ((with_reducible refine po_yt ?_ ?_); · (first | with_reducible rfl | (simp +decide only [pvl]; done))) | ((with_reducible refine po_yf ?_ ?_); · (first | with_reducible rfl | (simp +decide only [pvl]; done))) | ((with_reducible refine po_nt ?_ ?_); · (first | with_reducible rfl | (simp +decide only [pvl]; done))) | ((with_reducible refine po_nf ?_ ?_); · (first | with_reducible rfl | (simp +decide only [pvl]; done))) | ((with_reducible refine po_not' ?_ ?_); · (first | with_reducible rfl | (simp +decide only [pvl]; done))) | ((with_reducible refine pcond_tt ?_ ?_); · (first | with_reducible rfl | (simp +decide only [pvl]; done))) | ((with_reducible refine pcond_ff ?_ ?_); · (first | with_reducible rfl | (simp +decide only [pvl]; done))) | ((with_reducible apply po_loadE); (· rfl); (· rfl)) | ((with_reducible apply po_load); (· rfl); (· first | exact if_pos rfl | (refine (if_neg ?_).trans (if_pos rfl); assumption) | (refine (if_neg ?_).trans ((if_neg ?_).trans (if_pos rfl)) <;> assumption)); (· rfl)) | ((with_reducible apply po_store); (· rfl); (· rfl); (· first | exact if_pos rfl | (refine (if_neg ?_).trans (if_pos rfl); assumption) | (refine (if_neg ?_).trans ((if_neg ?_).trans (if_pos rfl)) <;> assumption)); (· exact ⟨rfl, rfl⟩); (· exact of_decide_eq_true rfl); (· rfl); (· exact fun _ _ h => False.elim h)) | (with_reducible refine pnil ?_) | ((with_reducible refine pnext ?_); try simp +decide only [pvl]) | ((fail_if_success (with_reducible refine pseqk ?_)); (with_reducible refine pseq ?_)) | ((with_reducible refine pkeep ?_); (try simp +decide only [pvl, pvt])) | (with_reducible refine pregion ?_) | (with_reducible refine pskip ?_) | (with_reducible refine pret_ ?_) | (with_reducible refine pnext_ret ?_) | (with_reducible refine pexit_ ?_) | (with_reducible refine pnext_exit ?_) | (with_reducible refine pblock_ret ?_) | (with_reducible refine pblock_normal ?_) | (with_reducible refine pexit_in ?_) | (with_reducible refine pexit_out rfl ?_))
  refine po_call rfl (C9 c) (fun _ _ h => False.elim h) ?_
  generalize memb a = A at *
  generalize memb b = B at *
  generalize memb c = D at *
  have hle : ∀ l k, st.le ((st.setBox v l).setBox v k) := fun l k => ((St.le.refl _).setBox _ hv.1).setBox _ hv.1
  repeat (first | (with_reducible refine po_movt ?_) | (with_reducible refine po_movc ?_) | ((with_reducible apply po_lenI); · rfl) | ((with_reducible apply po); (· rfl); (· rfl)) | ((with_reducible refine po_yt ?_ ?_); · (first | with_reducible rfl | (simp +decide only [pvl]; done))) | ((with_reducible refine po_yf ?_ ?_); · (first | with_reducible rfl | (simp +decide only [pvl]; done))) | ((with_reducible refine po_nt ?_ ?_); · (first | with_reducible rfl | (simp +decide only [pvl]; done))) | ((with_reducible refine po_nf ?_ ?_); · (first | with_reducible rfl | (simp +decide only [pvl]; done))) | ((with_reducible refine po_not' ?_ ?_); · (first | with_reducible rfl | (simp +decide only [pvl]; done))) | ((with_reducible refine pcond_tt ?_ ?_); · (first | with_reducible rfl | (simp +decide only [pvl]; done))) | ((with_reducible refine pcond_ff ?_ ?_); · (first | with_reducible rfl | (simp +decide only [pvl]; done))) | ((with_reducible apply po_loadE); (· rfl); (· rfl)) | ((with_reducible apply po_load); (· rfl); (· first | exact if_pos rfl | (refine (if_neg ?_).trans (if_pos rfl); assumption) | (refine (if_neg ?_).trans ((if_neg ?_).trans (if_pos rfl)) <;> assumption)); (· rfl)) | ((with_reducible apply po_store); (· rfl); (· rfl); (· first | exact if_pos rfl | (refine (if_neg ?_).trans (if_pos rfl); assumption) | (refine (if_neg ?_).trans ((if_neg ?_).trans (if_pos rfl)) <;> assumption)); (· exact ⟨rfl, rfl⟩); (· exact of_decide_eq_true rfl); (· rfl); (· exact fun _ _ h => False.elim h)) | (with_reducible refine pnil ?_) | ((with_reducible refine pnext ?_); try simp +decide only [pvl]) | ((fail_if_success (with_reducible refine pseqk ?_)); (with_reducible refine pseq ?_)) | ((with_reducible refine pkeep ?_); (try simp +decide only [pvl, pvt])) | (with_reducible refine pregion ?_) | (with_reducible refine pskip ?_) | (with_reducible refine pret_ ?_) | (with_reducible refine pnext_ret ?_) | (with_reducible refine pexit_ ?_) | (with_reducible refine pnext_exit ?_) | (with_reducible refine pblock_ret ?_) | (with_reducible refine pblock_normal ?_) | (with_reducible refine pexit_in ?_) | (with_reducible refine pexit_out rfl ?_))
  refine po_call rfl (C10 0 A B (by omega) (by omega)) (fun _ _ h => False.elim h) ?_
  repeat (first | (with_reducible refine po_movt ?_) | (with_reducible refine po_movc ?_) | ((with_reducible apply po_lenI); · rfl) | ((with_reducible apply po); (· rfl); (· rfl)) | ((with_reducible refine po_yt ?_ ?_); · (first | with_reducible rfl | (simp +decide only [pvl]; done))) | ((with_reducible refine po_yf ?_ ?_); · (first | with_reducible rfl | (simp +decide only [pvl]; done))) | ((with_reducible refine po_nt ?_ ?_); · (first | with_reducible rfl | (simp +decide only [pvl]; done))) | ((with_reducible refine po_nf ?_ ?_); · (first | with_reducible rfl | (simp +decide only [pvl]; done))) | ((with_reducible refine po_not' ?_ ?_); · (first | with_reducible rfl | (simp +decide only [pvl]; done))) | ((with_reducible refine pcond_tt ?_ ?_); · (first | with_reducible rfl | (simp +decide only [pvl]; done))) | ((with_reducible refine pcond_ff ?_ ?_); · (first | with_reducible rfl | (simp +decide only [pvl]; done))) | ((with_reducible apply po_loadE); (· rfl); (· rfl)) | ((with_reducible apply po_load); (· rfl); (· first | exact if_pos rfl | (refine (if_neg ?_).trans (if_pos rfl); assumption) | (refine (if_neg ?_).trans ((if_neg ?_).trans (if_pos rfl)) <;> assumption)); (· rfl)) | ((with_reducible apply po_store); (· rfl); (· rfl); (· first | exact if_pos rfl | (refine (if_neg ?_).trans (if_pos rfl); assumption) | (refine (if_neg ?_).trans ((if_neg ?_).trans (if_pos rfl)) <;> assumption)); (· exact ⟨rfl, rfl⟩); (· exact of_decide_eq_true rfl); (· rfl); (· exact fun _ _ h => False.elim h)) | (with_reducible refine pnil ?_) | ((with_reducible refine pnext ?_); try simp +decide only [pvl]) | ((fail_if_success (with_reducible refine pseqk ?_)); (with_reducible refine pseq ?_)) | ((with_reducible refine pkeep ?_); (try simp +decide only [pvl, pvt])) | (with_reducible refine pregion ?_) | (with_reducible refine pskip ?_) | (with_reducible refine pret_ ?_) | (with_reducible refine pnext_ret ?_) | (with_reducible refine pexit_ ?_) | (with_reducible refine pnext_exit ?_) | (with_reducible refine pblock_ret ?_) | (with_reducible refine pblock_normal ?_) | (with_reducible refine pexit_in ?_) | (with_reducible refine pexit_out rfl ?_))
  by_cases h1 : (A.length : Int) < 2 * cnt A B
  case neg =>
    rw [decide_eq_false h1]
    repeat (first | (with_reducible refine po_movt ?_) | (with_reducible refine po_movc ?_) | ((with_reducible apply po_lenI); · rfl) | ((with_reducible apply po); (· rfl); (· rfl)) | ((with_reducible refine po_yt ?_ ?_); · (first | with_reducible rfl | (simp +decide only [pvl]; done))) | ((with_reducible refine po_yf ?_ ?_); · (first | with_reducible rfl | (simp +decide only [pvl]; done))) | ((with_reducible refine po_nt ?_ ?_); · (first | with_reducible rfl | (simp +decide only [pvl]; done))) | ((with_reducible refine po_nf ?_ ?_); · (first | with_reducible rfl | (simp +decide only [pvl]; done))) | ((with_reducible refine po_not' ?_ ?_); · (first | with_reducible rfl | (simp +decide only [pvl]; done))) | ((with_reducible refine pcond_tt ?_ ?_); · (first | with_reducible rfl | (simp +decide only [pvl]; done))) | ((with_reducible refine pcond_ff ?_ ?_); · (first | with_reducible rfl | (simp +decide only [pvl]; done))) | ((with_reducible apply po_loadE); (· rfl); (· rfl)) | ((with_reducible apply po_load); (· rfl); (· first | exact if_pos rfl | (refine (if_neg ?_).trans (if_pos rfl); assumption) | (refine (if_neg ?_).trans ((if_neg ?_).trans (if_pos rfl)) <;> assumption)); (· rfl)) | ((with_reducible apply po_store); (· rfl); (· rfl); (· first | exact if_pos rfl | (refine (if_neg ?_).trans (if_pos rfl); assumption) | (refine (if_neg ?_).trans ((if_neg ?_).trans (if_pos rfl)) <;> assumption)); (· exact ⟨rfl, rfl⟩); (· exact of_decide_eq_true rfl); (· rfl); (· exact fun _ _ h => False.elim h)) | (with_reducible refine pnil ?_) | ((with_reducible refine pnext ?_); try simp +decide only [pvl]) | ((fail_if_success (with_reducible refine pseqk ?_)); (with_reducible refine pseq ?_)) | ((with_reducible refine pkeep ?_); (try simp +decide only [pvl, pvt])) | (with_reducible refine pregion ?_) | (with_reducible refine pskip ?_) | (with_reducible refine pret_ ?_) | (with_reducible refine pnext_ret ?_) | (with_reducible refine pexit_ ?_) | (with_reducible refine pnext_exit ?_) | (with_reducible refine pblock_ret ?_) | (with_reducible refine pblock_normal ?_) | (with_reducible refine pexit_in ?_) | (with_reducible refine pexit_out rfl ?_))
    exact pfin_pure rfl (hle _ _)
  rw [decide_eq_true h1]
  repeat (first | (with_reducible refine po_movt ?_) | (with_reducible refine po_movc ?_) | ((with_reducible apply po_lenI); · rfl) | ((with_reducible apply po); (· rfl); (· rfl)) | ((with_reducible refine po_yt ?_ ?_); · (first | with_reducible rfl | (simp +decide only [pvl]; done))) | ((with_reducible refine po_yf ?_ ?_); · (first | with_reducible rfl | (simp +decide only [pvl]; done))) | ((with_reducible refine po_nt ?_ ?_); · (first | with_reducible rfl | (simp +decide only [pvl]; done))) | ((with_reducible refine po_nf ?_ ?_); · (first | with_reducible rfl | (simp +decide only [pvl]; done))) | ((with_reducible refine po_not' ?_ ?_); · (first | with_reducible rfl | (simp +decide only [pvl]; done))) | ((with_reducible refine pcond_tt ?_ ?_); · (first | with_reducible rfl | (simp +decide only [pvl]; done))) | ((with_reducible refine pcond_ff ?_ ?_); · (first | with_reducible rfl | (simp +decide only [pvl]; done))) | ((with_reducible apply po_loadE); (· rfl); (· rfl)) | ((with_reducible apply po_load); (· rfl); (· first | exact if_pos rfl | (refine (if_neg ?_).trans (if_pos rfl); assumption) | (refine (if_neg ?_).trans ((if_neg ?_).trans (if_pos rfl)) <;> assumption)); (· rfl)) | ((with_reducible apply po_store); (· rfl); (· rfl); (· first | exact if_pos rfl | (refine (if_neg ?_).trans (if_pos rfl); assumption) | (refine (if_neg ?_).trans ((if_neg ?_).trans (if_pos rfl)) <;> assumption)); (· exact ⟨rfl, rfl⟩); (· exact of_decide_eq_true rfl); (· rfl); (· exact fun _ _ h => False.elim h)) | (with_reducible refine pnil ?_) | ((with_reducible refine pnext ?_); try simp +decide only [pvl]) | ((fail_if_success (with_reducible refine pseqk ?_)); (with_reducible refine pseq ?_)) | ((with_reducible refine pkeep ?_); (try simp +decide only [pvl, pvt])) | (with_reducible refine pregion ?_) | (with_reducible refine pskip ?_) | (with_reducible refine pret_ ?_) | (with_reducible refine pnext_ret ?_) | (with_reducible refine pexit_ ?_) | (with_reducible refine pnext_exit ?_) | (with_reducible refine pblock_ret ?_) | (with_reducible refine pblock_normal ?_) | (with_reducible refine pexit_in ?_) | (with_reducible refine pexit_out rfl ?_))
  refine po_call rfl (C10 0 A D (by omega) (by omega)) (fun _ _ h => False.elim h) ?_
  repeat (first | (with_reducible refine po_movt ?_) | (with_reducible refine po_movc ?_) | ((with_reducible apply po_lenI); · rfl) | ((with_reducible apply po); (· rfl); (· rfl)) | ((with_reducible refine po_yt ?_ ?_); · (first | with_reducible rfl | (simp +decide only [pvl]; done))) | ((with_reducible refine po_yf ?_ ?_); · (first | with_reducible rfl | (simp +decide only [pvl]; done))) | ((with_reducible refine po_nt ?_ ?_); · (first | with_reducible rfl | (simp +decide only [pvl]; done))) | ((with_reducible refine po_nf ?_ ?_); · (first | with_reducible rfl | (simp +decide only [pvl]; done))) | ((with_reducible refine po_not' ?_ ?_); · (first | with_reducible rfl | (simp +decide only [pvl]; done))) | ((with_reducible refine pcond_tt ?_ ?_); · (first | with_reducible rfl | (simp +decide only [pvl]; done))) | ((with_reducible refine pcond_ff ?_ ?_); · (first | with_reducible rfl | (simp +decide only [pvl]; done))) | ((with_reducible apply po_loadE); (· rfl); (· rfl)) | ((with_reducible apply po_load); (· rfl); (· first | exact if_pos rfl | (refine (if_neg ?_).trans (if_pos rfl); assumption) | (refine (if_neg ?_).trans ((if_neg ?_).trans (if_pos rfl)) <;> assumption)); (· rfl)) | ((with_reducible apply po_store); (· rfl); (· rfl); (· first | exact if_pos rfl | (refine (if_neg ?_).trans (if_pos rfl); assumption) | (refine (if_neg ?_).trans ((if_neg ?_).trans (if_pos rfl)) <;> assumption)); (· exact ⟨rfl, rfl⟩); (· exact of_decide_eq_true rfl); (· rfl); (· exact fun _ _ h => False.elim h)) | (with_reducible refine pnil ?_) | ((with_reducible refine pnext ?_); try simp +decide only [pvl]) | ((fail_if_success (with_reducible refine pseqk ?_)); (with_reducible refine pseq ?_)) | ((with_reducible refine pkeep ?_); (try simp +decide only [pvl, pvt])) | (with_reducible refine pregion ?_) | (with_reducible refine pskip ?_) | (with_reducible refine pret_ ?_) | (with_reducible refine pnext_ret ?_) | (with_reducible refine pexit_ ?_) | (with_reducible refine pnext_exit ?_) | (with_reducible refine pblock_ret ?_) | (with_reducible refine pblock_normal ?_) | (with_reducible refine pexit_in ?_) | (with_reducible refine pexit_out rfl ?_))
  by_cases h2 : (A.length : Int) < 2 * cnt A D
  case neg =>
    rw [decide_eq_false h2]
    repeat (first | (with_reducible refine po_movt ?_) | (with_reducible refine po_movc ?_) | ((with_reducible apply po_lenI); · rfl) | ((with_reducible apply po); (· rfl); (· rfl)) | ((with_reducible refine po_yt ?_ ?_); · (first | with_reducible rfl | (simp +decide only [pvl]; done))) | ((with_reducible refine po_yf ?_ ?_); · (first | with_reducible rfl | (simp +decide only [pvl]; done))) | ((with_reducible refine po_nt ?_ ?_); · (first | with_reducible rfl | (simp +decide only [pvl]; done))) | ((with_reducible refine po_nf ?_ ?_); · (first | with_reducible rfl | (simp +decide only [pvl]; done))) | ((with_reducible refine po_not' ?_ ?_); · (first | with_reducible rfl | (simp +decide only [pvl]; done))) | ((with_reducible refine pcond_tt ?_ ?_); · (first | with_reducible rfl | (simp +decide only [pvl]; done))) | ((with_reducible refine pcond_ff ?_ ?_); · (first | with_reducible rfl | (simp +decide only [pvl]; done))) | ((with_reducible apply po_loadE); (· rfl); (· rfl)) | ((with_reducible apply po_load); (· rfl); (· first | exact if_pos rfl | (refine (if_neg ?_).trans (if_pos rfl); assumption) | (refine (if_neg ?_).trans ((if_neg ?_).trans (if_pos rfl)) <;> assumption)); (· rfl)) | ((with_reducible apply po_store); (· rfl); (· rfl); (· first | exact if_pos rfl | (refine (if_neg ?_).trans (if_pos rfl); assumption) | (refine (if_neg ?_).trans ((if_neg ?_).trans (if_pos rfl)) <;> assumption)); (· exact ⟨rfl, rfl⟩); (· exact of_decide_eq_true rfl); (· rfl); (· exact fun _ _ h => False.elim h)) | (with_reducible refine pnil ?_) | ((with_reducible refine pnext ?_); try simp +decide only [pvl]) | ((fail_if_success (with_reducible refine pseqk ?_)); (with_reducible refine pseq ?_)) | ((with_reducible refine pkeep ?_); (try simp +decide only [pvl, pvt])) | (with_reducible refine pregion ?_) | (with_reducible refine pskip ?_) | (with_reducible refine pret_ ?_) | (with_reducible refine pnext_ret ?_) | (with_reducible refine pexit_ ?_) | (with_reducible refine pnext_exit ?_) | (with_reducible refine pblock_ret ?_) | (with_reducible refine pblock_normal ?_) | (with_reducible refine pexit_in ?_) | (with_reducible refine pexit_out rfl ?_))
    exact pfin_pure rfl (hle _ _)
  rw [decide_eq_true h2]
  repeat (first | (with_reducible refine po_movt ?_) | (with_reducible refine po_movc ?_) | ((with_reducible apply po_lenI); · rfl) | ((with_reducible apply po); (· rfl); (· rfl)) | ((with_reducible refine po_yt ?_ ?_); · (first | with_reducible rfl | (simp +decide only [pvl]; done))) | ((with_reducible refine po_yf ?_ ?_); · (first | with_reducible rfl | (simp +decide only [pvl]; done))) | ((with_reducible refine po_nt ?_ ?_); · (first | with_reducible rfl | (simp +decide only [pvl]; done))) | ((with_reducible refine po_nf ?_ ?_); · (first | with_reducible rfl | (simp +decide only [pvl]; done))) | ((with_reducible refine po_not' ?_ ?_); · (first | with_reducible rfl | (simp +decide only [pvl]; done))) | ((with_reducible refine pcond_tt ?_ ?_); · (first | with_reducible rfl | (simp +decide only [pvl]; done))) | ((with_reducible refine pcond_ff ?_ ?_); · (first | with_reducible rfl | (simp +decide only [pvl]; done))) | ((with_reducible apply po_loadE); (· rfl); (· rfl)) | ((with_reducible apply po_load); (· rfl); (· first | exact if_pos rfl | (refine (if_neg ?_).trans (if_pos rfl); assumption) | (refine (if_neg ?_).trans ((if_neg ?_).trans (if_pos rfl)) <;> assumption)); (· rfl)) | ((with_reducible apply po_store); (· rfl); (· rfl); (· first | exact if_pos rfl | (refine (if_neg ?_).trans (if_pos rfl); assumption) | (refine (if_neg ?_).trans ((if_neg ?_).trans (if_pos rfl)) <;> assumption)); (· exact ⟨rfl, rfl⟩); (· exact of_decide_eq_true rfl); (· rfl); (· exact fun _ _ h => False.elim h)) | (with_reducible refine pnil ?_) | ((with_reducible refine pnext ?_); try simp +decide only [pvl]) | ((fail_if_success (with_reducible refine pseqk ?_)); (with_reducible refine pseq ?_)) | ((with_reducible refine pkeep ?_); (try simp +decide only [pvl, pvt])) | (with_reducible refine pregion ?_) | (with_reducible refine pskip ?_) | (with_reducible refine pret_ ?_) | (with_reducible refine pnext_ret ?_) | (with_reducible refine pexit_ ?_) | (with_reducible refine pnext_exit ?_) | (with_reducible refine pblock_ret ?_) | (with_reducible refine pblock_normal ?_) | (with_reducible refine pexit_in ?_) | (with_reducible refine pexit_out rfl ?_))
  let T : St := (st.setBox v [i64 0, .full []]).setBox v [i64 0, .d (ints A)]
  refine prange B.length (by omega) (fun k => put (put (put (put (put (fun _ => .undef) (some 35) (i64 k)) (some 34) (i64 B.length)) (some 33) (.d (ints B))) (some 9) (.d (ints D))) (some 7) (ptrAt v)) (fun _ => T)
    (fun k => ∀ n, n ∈ B.take k → n ∈ D → n ∉ A) (by simp) rfl rfl (fun k => rfl) (fun k => rfl) ?_ ?_
  · intro hI
    exfalso
    obtain ⟨n, n1, n2, n3⟩ := cnt_common A B D (by omega)
    rw [List.take_length] at hI
    exact hI n n2 n3 n1
  · intro k hk hI
    refine pblock ?_
    repeat (first | (with_reducible refine po_movt ?_) | (with_reducible refine po_movc ?_) | ((with_reducible apply po_lenI); · rfl) | ((with_reducible apply po); (· rfl); (· rfl)) | ((with_reducible refine po_yt ?_ ?_); · (first | with_reducible rfl | (simp +decide only [pvl]; done))) | ((with_reducible refine po_yf ?_ ?_); · (first | with_reducible rfl | (simp +decide only [pvl]; done))) | ((with_reducible refine po_nt ?_ ?_); · (first | with_reducible rfl | (simp +decide only [pvl]; done))) | ((with_reducible refine po_nf ?_ ?_); · (first | with_reducible rfl | (simp +decide only [pvl]; done))) | ((with_reducible refine po_not' ?_ ?_); · (first | with_reducible rfl | (simp +decide only [pvl]; done))) | ((with_reducible refine pcond_tt ?_ ?_); · (first | with_reducible rfl | (simp +decide only [pvl]; done))) | ((with_reducible refine pcond_ff ?_ ?_); · (first | with_reducible rfl | (simp +decide only [pvl]; done))) | ((with_reducible apply po_loadE); (· rfl); (· rfl)) | ((with_reducible apply po_load); (· rfl); (· first | exact if_pos rfl | (refine (if_neg ?_).trans (if_pos rfl); assumption) | (refine (if_neg ?_).trans ((if_neg ?_).trans (if_pos rfl)) <;> assumption)); (· rfl)) | ((with_reducible apply po_store); (· rfl); (· rfl); (· first | exact if_pos rfl | (refine (if_neg ?_).trans (if_pos rfl); assumption) | (refine (if_neg ?_).trans ((if_neg ?_).trans (if_pos rfl)) <;> assumption)); (· exact ⟨rfl, rfl⟩); (· exact of_decide_eq_true rfl); (· rfl); (· exact fun _ _ h => False.elim h)) | (with_reducible refine pnil ?_) | ((with_reducible refine pnext ?_); try simp +decide only [pvl]) | ((fail_if_success (with_reducible refine pseqk ?_)); (with_reducible refine pseq ?_)) | ((with_reducible refine pkeep ?_); (try simp +decide only [pvl, pvt])) | (with_reducible refine pregion ?_) | (with_reducible refine pskip ?_) | (with_reducible refine pret_ ?_) | (with_reducible refine pnext_ret ?_) | (with_reducible refine pexit_ ?_) | (with_reducible refine pnext_exit ?_) | (with_reducible refine pblock_ret ?_) | (with_reducible refine pblock_normal ?_) | (with_reducible refine pexit_in ?_) | (with_reducible refine pexit_out rfl ?_))
    refine po rfl (iaddr_ints rfl rfl hk) ?_
    repeat (first | (with_reducible refine po_movt ?_) | (with_reducible refine po_movc ?_) | ((with_reducible apply po_lenI); · rfl) | ((with_reducible apply po); (· rfl); (· rfl)) | ((with_reducible refine po_yt ?_ ?_); · (first | with_reducible rfl | (simp +decide only [pvl]; done))) | ((with_reducible refine po_yf ?_ ?_); · (first | with_reducible rfl | (simp +decide only [pvl]; done))) | ((with_reducible refine po_nt ?_ ?_); · (first | with_reducible rfl | (simp +decide only [pvl]; done))) | ((with_reducible refine po_nf ?_ ?_); · (first | with_reducible rfl | (simp +decide only [pvl]; done))) | ((with_reducible refine po_not' ?_ ?_); · (first | with_reducible rfl | (simp +decide only [pvl]; done))) | ((with_reducible refine pcond_tt ?_ ?_); · (first | with_reducible rfl | (simp +decide only [pvl]; done))) | ((with_reducible refine pcond_ff ?_ ?_); · (first | with_reducible rfl | (simp +decide only [pvl]; done))) | ((with_reducible apply po_loadE); (· rfl); (· rfl)) | ((with_reducible apply po_load); (· rfl); (· first | exact if_pos rfl | (refine (if_neg ?_).trans (if_pos rfl); assumption) | (refine (if_neg ?_).trans ((if_neg ?_).trans (if_pos rfl)) <;> assumption)); (· rfl)) | ((with_reducible apply po_store); (· rfl); (· rfl); (· first | exact if_pos rfl | (refine (if_neg ?_).trans (if_pos rfl); assumption) | (refine (if_neg ?_).trans ((if_neg ?_).trans (if_pos rfl)) <;> assumption)); (· exact ⟨rfl, rfl⟩); (· exact of_decide_eq_true rfl); (· rfl); (· exact fun _ _ h => False.elim h)) | (with_reducible refine pnil ?_) | ((with_reducible refine pnext ?_); try simp +decide only [pvl]) | ((fail_if_success (with_reducible refine pseqk ?_)); (with_reducible refine pseq ?_)) | ((with_reducible refine pkeep ?_); (try simp +decide only [pvl, pvt])) | (with_reducible refine pregion ?_) | (with_reducible refine pskip ?_) | (with_reducible refine pret_ ?_) | (with_reducible refine pnext_ret ?_) | (with_reducible refine pexit_ ?_) | (with_reducible refine pnext_exit ?_) | (with_reducible refine pblock_ret ?_) | (with_reducible refine pblock_normal ?_) | (with_reducible refine pexit_in ?_) | (with_reducible refine pexit_out rfl ?_))
    refine prange D.length (by omega) (fun j => put (put (put (put (put (put (put (put (put (fun _ => .undef) (some 41) (i64 j)) (some 40) (i64 D.length)) (some 39) (.d (ints D))) (some 35) (i64 k)) (some 34) (i64 B.length)) (some 33) (.d (ints B))) (some 11) (i64 B[k])) (some 9) (.d (ints D))) (some 7) (ptrAt v)) (fun _ => T)
      (fun j => ∀ n, n ∈ D.take j → n = B[k] → n ∉ A) (by simp) rfl rfl (fun k => rfl) (fun k => rfl) ?_ ?_
    · intro hJ
      rw [List.take_length] at hJ
      refine ⟨?_, ?_, ?_, ?_⟩
      · intro n hn hd
        rcases getElem_mem_take hk hn with h | h
        · exact hI n h hd
        · exact hJ n hd h
      all_goals first | trivial | rfl
    · intro j hj hJ
      refine pblock ?_
      repeat (first | (with_reducible refine po_movt ?_) | (with_reducible refine po_movc ?_) | ((with_reducible apply po_lenI); · rfl) | ((with_reducible apply po); (· rfl); (· rfl)) | ((with_reducible refine po_yt ?_ ?_); · (first | with_reducible rfl | (simp +decide only [pvl]; done))) | ((with_reducible refine po_yf ?_ ?_); · (first | with_reducible rfl | (simp +decide only [pvl]; done))) | ((with_reducible refine po_nt ?_ ?_); · (first | with_reducible rfl | (simp +decide only [pvl]; done))) | ((with_reducible refine po_nf ?_ ?_); · (first | with_reducible rfl | (simp +decide only [pvl]; done))) | ((with_reducible refine po_not' ?_ ?_); · (first | with_reducible rfl | (simp +decide only [pvl]; done))) | ((with_reducible refine pcond_tt ?_ ?_); · (first | with_reducible rfl | (simp +decide only [pvl]; done))) | ((with_reducible refine pcond_ff ?_ ?_); · (first | with_reducible rfl | (simp +decide only [pvl]; done))) | ((with_reducible apply po_loadE); (· rfl); (· rfl)) | ((with_reducible apply po_load); (· rfl); (· first | exact if_pos rfl | (refine (if_neg ?_).trans (if_pos rfl); assumption) | (refine (if_neg ?_).trans ((if_neg ?_).trans (if_pos rfl)) <;> assumption)); (· rfl)) | ((with_reducible apply po_store); (· rfl); (· rfl); (· first | exact if_pos rfl | (refine (if_neg ?_).trans (if_pos rfl); assumption) | (refine (if_neg ?_).trans ((if_neg ?_).trans (if_pos rfl)) <;> assumption)); (· exact ⟨rfl, rfl⟩); (· exact of_decide_eq_true rfl); (· rfl); (· exact fun _ _ h => False.elim h)) | (with_reducible refine pnil ?_) | ((with_reducible refine pnext ?_); try simp +decide only [pvl]) | ((fail_if_success (with_reducible refine pseqk ?_)); (with_reducible refine pseq ?_)) | ((with_reducible refine pkeep ?_); (try simp +decide only [pvl, pvt])) | (with_reducible refine pregion ?_) | (with_reducible refine pskip ?_) | (with_reducible refine pret_ ?_) | (with_reducible refine pnext_ret ?_) | (with_reducible refine pexit_ ?_) | (with_reducible refine pnext_exit ?_) | (with_reducible refine pblock_ret ?_) | (with_reducible refine pblock_normal ?_) | (with_reducible refine pexit_in ?_) | (with_reducible refine pexit_out rfl ?_))
      refine po rfl (iaddr_ints rfl rfl hj) ?_
      repeat (first | (with_reducible refine po_movt ?_) | (with_reducible refine po_movc ?_) | ((with_reducible apply po_lenI); · rfl) | ((with_reducible apply po); (· rfl); (· rfl)) | ((with_reducible refine po_yt ?_ ?_); · (first | with_reducible rfl | (simp +decide only [pvl]; done))) | ((with_reducible refine po_yf ?_ ?_); · (first | with_reducible rfl | (simp +decide only [pvl]; done))) | ((with_reducible refine po_nt ?_ ?_); · (first | with_reducible rfl | (simp +decide only [pvl]; done))) | ((with_reducible refine po_nf ?_ ?_); · (first | with_reducible rfl | (simp +decide only [pvl]; done))) | ((with_reducible refine po_not' ?_ ?_); · (first | with_reducible rfl | (simp +decide only [pvl]; done))) | ((with_reducible refine pcond_tt ?_ ?_); · (first | with_reducible rfl | (simp +decide only [pvl]; done))) | ((with_reducible refine pcond_ff ?_ ?_); · (first | with_reducible rfl | (simp +decide only [pvl]; done))) | ((with_reducible apply po_loadE); (· rfl); (· rfl)) | ((with_reducible apply po_load); (· rfl); (· first | exact if_pos rfl | (refine (if_neg ?_).trans (if_pos rfl); assumption) | (refine (if_neg ?_).trans ((if_neg ?_).trans (if_pos rfl)) <;> assumption)); (· rfl)) | ((with_reducible apply po_store); (· rfl); (· rfl); (· first | exact if_pos rfl | (refine (if_neg ?_).trans (if_pos rfl); assumption) | (refine (if_neg ?_).trans ((if_neg ?_).trans (if_pos rfl)) <;> assumption)); (· exact ⟨rfl, rfl⟩); (· exact of_decide_eq_true rfl); (· rfl); (· exact fun _ _ h => False.elim h)) | (with_reducible refine pnil ?_) | ((with_reducible refine pnext ?_); try simp +decide only [pvl]) | ((fail_if_success (with_reducible refine pseqk ?_)); (with_reducible refine pseq ?_)) | ((with_reducible refine pkeep ?_); (try simp +decide only [pvl, pvt])) | (with_reducible refine pregion ?_) | (with_reducible refine pskip ?_) | (with_reducible refine pret_ ?_) | (with_reducible refine pnext_ret ?_) | (with_reducible refine pexit_ ?_) | (with_reducible refine pnext_exit ?_) | (with_reducible refine pblock_ret ?_) | (with_reducible refine pblock_normal ?_) | (with_reducible refine pexit_in ?_) | (with_reducible refine pexit_out rfl ?_))
      by_cases e : B[k] = D[j]
      · have e' : (B[k] == D[j]) = true := by simp [e]
        rw [e']
        repeat (first | (with_reducible refine po_movt ?_) | (with_reducible refine po_movc ?_) | ((with_reducible apply po_lenI); · rfl) | ((with_reducible apply po); (· rfl); (· rfl)) | ((with_reducible refine po_yt ?_ ?_); · (first | with_reducible rfl | (simp +decide only [pvl]; done))) | ((with_reducible refine po_yf ?_ ?_); · (first | with_reducible rfl | (simp +decide only [pvl]; done))) | ((with_reducible refine po_nt ?_ ?_); · (first | with_reducible rfl | (simp +decide only [pvl]; done))) | ((with_reducible refine po_nf ?_ ?_); · (first | with_reducible rfl | (simp +decide only [pvl]; done))) | ((with_reducible refine po_not' ?_ ?_); · (first | with_reducible rfl | (simp +decide only [pvl]; done))) | ((with_reducible refine pcond_tt ?_ ?_); · (first | with_reducible rfl | (simp +decide only [pvl]; done))) | ((with_reducible refine pcond_ff ?_ ?_); · (first | with_reducible rfl | (simp +decide only [pvl]; done))) | ((with_reducible apply po_loadE); (· rfl); (· rfl)) | ((with_reducible apply po_load); (· rfl); (· first | exact if_pos rfl | (refine (if_neg ?_).trans (if_pos rfl); assumption) | (refine (if_neg ?_).trans ((if_neg ?_).trans (if_pos rfl)) <;> assumption)); (· rfl)) | ((with_reducible apply po_store); (· rfl); (· rfl); (· first | exact if_pos rfl | (refine (if_neg ?_).trans (if_pos rfl); assumption) | (refine (if_neg ?_).trans ((if_neg ?_).trans (if_pos rfl)) <;> assumption)); (· exact ⟨rfl, rfl⟩); (· exact of_decide_eq_true rfl); (· rfl); (· exact fun _ _ h => False.elim h)) | (with_reducible refine pnil ?_) | ((with_reducible refine pnext ?_); try simp +decide only [pvl]) | ((fail_if_success (with_reducible refine pseqk ?_)); (with_reducible refine pseq ?_)) | ((with_reducible refine pkeep ?_); (try simp +decide only [pvl, pvt])) | (with_reducible refine pregion ?_) | (with_reducible refine pskip ?_) | (with_reducible refine pret_ ?_) | (with_reducible refine pnext_ret ?_) | (with_reducible refine pexit_ ?_) | (with_reducible refine pnext_exit ?_) | (with_reducible refine pblock_ret ?_) | (with_reducible refine pblock_normal ?_) | (with_reducible refine pexit_in ?_) | (with_reducible refine pexit_out rfl ?_))
        refine po_call rfl (C11 0 A B[k] (by omega)) (fun _ _ h => False.elim h) ?_
        repeat (first | (with_reducible refine po_movt ?_) | (with_reducible refine po_movc ?_) | ((with_reducible apply po_lenI); · rfl) | ((with_reducible apply po); (· rfl); (· rfl)) | ((with_reducible refine po_yt ?_ ?_); · (first | with_reducible rfl | (simp +decide only [pvl]; done))) | ((with_reducible refine po_yf ?_ ?_); · (first | with_reducible rfl | (simp +decide only [pvl]; done))) | ((with_reducible refine po_nt ?_ ?_); · (first | with_reducible rfl | (simp +decide only [pvl]; done))) | ((with_reducible refine po_nf ?_ ?_); · (first | with_reducible rfl | (simp +decide only [pvl]; done))) | ((with_reducible refine po_not' ?_ ?_); · (first | with_reducible rfl | (simp +decide only [pvl]; done))) | ((with_reducible refine pcond_tt ?_ ?_); · (first | with_reducible rfl | (simp +decide only [pvl]; done))) | ((with_reducible refine pcond_ff ?_ ?_); · (first | with_reducible rfl | (simp +decide only [pvl]; done))) | ((with_reducible apply po_loadE); (· rfl); (· rfl)) | ((with_reducible apply po_load); (· rfl); (· first | exact if_pos rfl | (refine (if_neg ?_).trans (if_pos rfl); assumption) | (refine (if_neg ?_).trans ((if_neg ?_).trans (if_pos rfl)) <;> assumption)); (· rfl)) | ((with_reducible apply po_store); (· rfl); (· rfl); (· first | exact if_pos rfl | (refine (if_neg ?_).trans (if_pos rfl); assumption) | (refine (if_neg ?_).trans ((if_neg ?_).trans (if_pos rfl)) <;> assumption)); (· exact ⟨rfl, rfl⟩); (· exact of_decide_eq_true rfl); (· rfl); (· exact fun _ _ h => False.elim h)) | (with_reducible refine pnil ?_) | ((with_reducible refine pnext ?_); try simp +decide only [pvl]) | ((fail_if_success (with_reducible refine pseqk ?_)); (with_reducible refine pseq ?_)) | ((with_reducible refine pkeep ?_); (try simp +decide only [pvl, pvt])) | (with_reducible refine pregion ?_) | (with_reducible refine pskip ?_) | (with_reducible refine pret_ ?_) | (with_reducible refine pnext_ret ?_) | (with_reducible refine pexit_ ?_) | (with_reducible refine pnext_exit ?_) | (with_reducible refine pblock_ret ?_) | (with_reducible refine pblock_normal ?_) | (with_reducible refine pexit_in ?_) | (with_reducible refine pexit_out rfl ?_))
        by_cases h : B[k] ∈ A
        · rw [decide_eq_true h]
          repeat (first | (with_reducible refine po_movt ?_) | (with_reducible refine po_movc ?_) | ((with_reducible apply po_lenI); · rfl) | ((with_reducible apply po); (· rfl); (· rfl)) | ((with_reducible refine po_yt ?_ ?_); · (first | with_reducible rfl | (simp +decide only [pvl]; done))) | ((with_reducible refine po_yf ?_ ?_); · (first | with_reducible rfl | (simp +decide only [pvl]; done))) | ((with_reducible refine po_nt ?_ ?_); · (first | with_reducible rfl | (simp +decide only [pvl]; done))) | ((with_reducible refine po_nf ?_ ?_); · (first | with_reducible rfl | (simp +decide only [pvl]; done))) | ((with_reducible refine po_not' ?_ ?_); · (first | with_reducible rfl | (simp +decide only [pvl]; done))) | ((with_reducible refine pcond_tt ?_ ?_); · (first | with_reducible rfl | (simp +decide only [pvl]; done))) | ((with_reducible refine pcond_ff ?_ ?_); · (first | with_reducible rfl | (simp +decide only [pvl]; done))) | ((with_reducible apply po_loadE); (· rfl); (· rfl)) | ((with_reducible apply po_load); (· rfl); (· first | exact if_pos rfl | (refine (if_neg ?_).trans (if_pos rfl); assumption) | (refine (if_neg ?_).trans ((if_neg ?_).trans (if_pos rfl)) <;> assumption)); (· rfl)) | ((with_reducible apply po_store); (· rfl); (· rfl); (· first | exact if_pos rfl | (refine (if_neg ?_).trans (if_pos rfl); assumption) | (refine (if_neg ?_).trans ((if_neg ?_).trans (if_pos rfl)) <;> assumption)); (· exact ⟨rfl, rfl⟩); (· exact of_decide_eq_true rfl); (· rfl); (· exact fun _ _ h => False.elim h)) | (with_reducible refine pnil ?_) | ((with_reducible refine pnext ?_); try simp +decide only [pvl]) | ((fail_if_success (with_reducible refine pseqk ?_)); (with_reducible refine pseq ?_)) | ((with_reducible refine pkeep ?_); (try simp +decide only [pvl, pvt])) | (with_reducible refine pregion ?_) | (with_reducible refine pskip ?_) | (with_reducible refine pret_ ?_) | (with_reducible refine pnext_ret ?_) | (with_reducible refine pexit_ ?_) | (with_reducible refine pnext_exit ?_) | (with_reducible refine pblock_ret ?_) | (with_reducible refine pblock_normal ?_) | (with_reducible refine pexit_in ?_) | (with_reducible refine pexit_out rfl ?_))
          exact pfin_pure rfl (hle _ _)
        · rw [decide_eq_false h]
          repeat (first | (with_reducible refine po_movt ?_) | (with_reducible refine po_movc ?_) | ((with_reducible apply po_lenI); · rfl) | ((with_reducible apply po); (· rfl); (· rfl)) | ((with_reducible refine po_yt ?_ ?_); · (first | with_reducible rfl | (simp +decide only [pvl]; done))) | ((with_reducible refine po_yf ?_ ?_); · (first | with_reducible rfl | (simp +decide only [pvl]; done))) | ((with_reducible refine po_nt ?_ ?_); · (first | with_reducible rfl | (simp +decide only [pvl]; done))) | ((with_reducible refine po_nf ?_ ?_); · (first | with_reducible rfl | (simp +decide only [pvl]; done))) | ((with_reducible refine po_not' ?_ ?_); · (first | with_reducible rfl | (simp +decide only [pvl]; done))) | ((with_reducible refine pcond_tt ?_ ?_); · (first | with_reducible rfl | (simp +decide only [pvl]; done))) | ((with_reducible refine pcond_ff ?_ ?_); · (first | with_reducible rfl | (simp +decide only [pvl]; done))) | ((with_reducible apply po_loadE); (· rfl); (· rfl)) | ((with_reducible apply po_load); (· rfl); (· first | exact if_pos rfl | (refine (if_neg ?_).trans (if_pos rfl); assumption) | (refine (if_neg ?_).trans ((if_neg ?_).trans (if_pos rfl)) <;> assumption)); (· rfl)) | ((with_reducible apply po_store); (· rfl); (· rfl); (· first | exact if_pos rfl | (refine (if_neg ?_).trans (if_pos rfl); assumption) | (refine (if_neg ?_).trans ((if_neg ?_).trans (if_pos rfl)) <;> assumption)); (· exact ⟨rfl, rfl⟩); (· exact of_decide_eq_true rfl); (· rfl); (· exact fun _ _ h => False.elim h)) | (with_reducible refine pnil ?_) | ((with_reducible refine pnext ?_); try simp +decide only [pvl]) | ((fail_if_success (with_reducible refine pseqk ?_)); (with_reducible refine pseq ?_)) | ((with_reducible refine pkeep ?_); (try simp +decide only [pvl, pvt])) | (with_reducible refine pregion ?_) | (with_reducible refine pskip ?_) | (with_reducible refine pret_ ?_) | (with_reducible refine pnext_ret ?_) | (with_reducible refine pexit_ ?_) | (with_reducible refine pnext_exit ?_) | (with_reducible refine pblock_ret ?_) | (with_reducible refine pblock_normal ?_) | (with_reducible refine pexit_in ?_) | (with_reducible refine pexit_out rfl ?_))
          refine ⟨?_, ?_, ?_, ?_⟩
          · intro n hn hd
            rw [hd]; exact h
          all_goals first | trivial | rfl
      · have e' : (B[k] == D[j]) = false := by simp [e]
        rw [e']
        repeat (first | (with_reducible refine po_movt ?_) | (with_reducible refine po_movc ?_) | ((with_reducible apply po_lenI); · rfl) | ((with_reducible apply po); (· rfl); (· rfl)) | ((with_reducible refine po_yt ?_ ?_); · (first | with_reducible rfl | (simp +decide only [pvl]; done))) | ((with_reducible refine po_yf ?_ ?_); · (first | with_reducible rfl | (simp +decide only [pvl]; done))) | ((with_reducible refine po_nt ?_ ?_); · (first | with_reducible rfl | (simp +decide only [pvl]; done))) | ((with_reducible refine po_nf ?_ ?_); · (first | with_reducible rfl | (simp +decide only [pvl]; done))) | ((with_reducible refine po_not' ?_ ?_); · (first | with_reducible rfl | (simp +decide only [pvl]; done))) | ((with_reducible refine pcond_tt ?_ ?_); · (first | with_reducible rfl | (simp +decide only [pvl]; done))) | ((with_reducible refine pcond_ff ?_ ?_); · (first | with_reducible rfl | (simp +decide only [pvl]; done))) | ((with_reducible apply po_loadE); (· rfl); (· rfl)) | ((with_reducible apply po_load); (· rfl); (· first | exact if_pos rfl | (refine (if_neg ?_).trans (if_pos rfl); assumption) | (refine (if_neg ?_).trans ((if_neg ?_).trans (if_pos rfl)) <;> assumption)); (· rfl)) | ((with_reducible apply po_store); (· rfl); (· rfl); (· first | exact if_pos rfl | (refine (if_neg ?_).trans (if_pos rfl); assumption) | (refine (if_neg ?_).trans ((if_neg ?_).trans (if_pos rfl)) <;> assumption)); (· exact ⟨rfl, rfl⟩); (· exact of_decide_eq_true rfl); (· rfl); (· exact fun _ _ h => False.elim h)) | (with_reducible refine pnil ?_) | ((with_reducible refine pnext ?_); try simp +decide only [pvl]) | ((fail_if_success (with_reducible refine pseqk ?_)); (with_reducible refine pseq ?_)) | ((with_reducible refine pkeep ?_); (try simp +decide only [pvl, pvt])) | (with_reducible refine pregion ?_) | (with_reducible refine pskip ?_) | (with_reducible refine pret_ ?_) | (with_reducible refine pnext_ret ?_) | (with_reducible refine pexit_ ?_) | (with_reducible refine pnext_exit ?_) | (with_reducible refine pblock_ret ?_) | (with_reducible refine pblock_normal ?_) | (with_reducible refine pexit_in ?_) | (with_reducible refine pexit_out rfl ?_))
        refine ⟨?_, ?_, ?_, ?_⟩
        · intro n hn hd
          rcases getElem_mem_take hj hn with h | h
          · exact hJ n h hd
          · exact absurd (hd.symm.trans h) e
        all_goals first | trivial | rfl

end Go.Pv
