/- Functions of the program, by value. No condition. -/
import Derived.Test.YtmcdhendjlijhaaR1
import Derived.Test.YtmcdhendjlijhaaD6
import Derived.Test.YtmcdhendjlijhaaProg
import Derived.Test.YtmcdhendjlijhaaE1
import Derived.Test.YtmcdhendjlijhaaP26
import Derived.Test.YtmcdhendjlijhaaD10
namespace Go.Pv
open Go.Proofs
set_option maxRecDepth 100000
set_option maxHeartbeats 4000000
/-- No package variables. -/
abbrev GG : Glob := fun _ => none

/-- (prompter/prompterlaw05.Node).Light -/
abbrev c34_5 : PCode :=
 (.seq (.region [⟨(.some 4), (.mov (.c (.d (.bool .false)))), .none⟩])
 .ret)
abbrev c34_4 : PCode :=
 (.cond (.t 22)
  c34_5
  .skip)
abbrev c34_3 : PCode :=
 (.keep [1, 2, 6, 8, 9, 10] (.seq (.region [⟨(.some 14), (.mov (.t 1)), .none⟩,
   ⟨(.some 15), (.bin .lss (.t 14) (.c (.d (.int .i64 1)))), .none⟩,
   ⟨(.some 16), (.mov (.t 15)), .none⟩,
   ⟨(.some 17), (.load .true 3 (.t 6) .false), (.some (16, .false))⟩,
   ⟨(.some 18), (.mov (.t 1)), (.some (16, .false))⟩,
   ⟨(.some 19), (.bin .sub (.t 18) (.c (.d (.int .i64 1)))), (.some (16, .false))⟩,
   ⟨(.some 20), (.call0 34 [(.t 17), (.t 19)]), (.some (16, .false))⟩,
   ⟨(.some 21), (.not (.t 20)), (.some (16, .false))⟩,
   ⟨(.some 22), (.pick (.t 16) (.c (.d (.bool .true))) (.t 21)), .none⟩])
 c34_4))
abbrev c34_2 : PCode :=
 (.block 1 (.seq (.region [⟨(.some 12), (.iaddr 3 (.t 8) (.t 10)), .none⟩,
   ⟨(.some 13), (.load .true 3 (.t 12) .false), .none⟩,
   ⟨(.some 6), (.alloc [(.d (.int .u8 0)), (.d (.int .u8 0)), (.full [])]), .none⟩,
   ⟨.none, (.store 3 (.t 6) (.t 13)), .none⟩])
 c34_3))
abbrev c34_1 : PCode :=
 (.keep [1, 2, 8, 9, 10] (.block 0 (.loop (.some [10, 1, 2, 8, 9]) (.seq (.region [⟨(.some 11), (.bin .lss (.t 10) (.t 9)), .none⟩])
 (.seq (.cond (.t 11)
  .skip
  (.exit 0))
 (.seq c34_2
 (.region [⟨(.some 23), (.bin .add (.t 10) (.c (.d (.int .i64 1)))), .none⟩,
   ⟨(.some 10), (.mov (.t 23)), .none⟩])))))))
abbrev c34_6 : PCode :=
 (.seq (.region [⟨(.some 24), (.faddr 2 (.t 2)), .none⟩,
   ⟨(.some 25), (.load .false 1 (.t 24) .false), .none⟩,
   ⟨(.some 26), (.len (.t 25)), .none⟩,
   ⟨(.some 27), (.bin .leq (.t 26) (.c (.d (.int .i64 3)))), .none⟩,
   ⟨(.some 4), (.mov (.t 27)), .none⟩])
 .ret)
abbrev c34_0 : PCode :=
 (.seq (.seq (.region [⟨(.some 7), (.faddr 2 (.t 2)), .none⟩,
   ⟨(.some 8), (.load .false 1 (.t 7) .false), .none⟩,
   ⟨(.some 9), (.len (.t 8)), .none⟩,
   ⟨(.some 10), (.mov (.c (.d (.int .i64 0)))), .none⟩])
 c34_1)
 c34_6)
def c34 : PFun := ⟨
 (.seq (.region [⟨(.some 2), (.box 3 (.t 0)), .none⟩,
   ⟨(.some 4), (.mov (.c (.d (.bool .false)))), .none⟩])
 c34_0),
 2, 28, [(.tmp 4)]⟩

/-- prompter/prompterlaw05.Name -/
abbrev c52_0 : PCode :=
 (.seq (.region [⟨(.some 5), (.mov (.t 0)), .none⟩,
   ⟨(.some 6), (.bin .rem (.t 5) (.c (.d (.int .i64 26)))), .none⟩,
   ⟨(.some 7), (.bin .add (.c (.d (.int .i64 97))) (.t 6)), .none⟩,
   ⟨(.some 8), (.cvt .u8 (.t 7)), .none⟩,
   ⟨(.some 9), (.mov (.t 1)), .none⟩,
   ⟨(.some 10), (.bin .rem (.t 9) (.c (.d (.int .u8 26)))), .none⟩,
   ⟨(.some 11), (.bin .add (.c (.d (.int .u8 65))) (.t 10)), .none⟩,
   ⟨(.some 12), (.mov (.t 0)), .none⟩,
   ⟨(.some 13), (.bin .quo (.t 12) (.c (.d (.int .i64 26)))), .none⟩,
   ⟨(.some 14), (.bin .rem (.t 13) (.c (.d (.int .i64 10)))), .none⟩,
   ⟨(.some 15), (.bin .add (.c (.d (.int .i64 48))) (.t 14)), .none⟩,
   ⟨(.some 16), (.cvt .u8 (.t 15)), .none⟩,
   ⟨(.some 17), (.bsl 1 [(.t 8), (.t 11), (.t 16)]), .none⟩,
   ⟨(.some 18), (.strOf (.t 17)), .none⟩,
   ⟨(.some 4), (.mov (.t 18)), .none⟩])
 .ret)
def c52 : PFun := ⟨
 (.seq (.region [⟨(.some 4), (.mov (.c (.d (.str (bs []))))), .none⟩])
 c52_0),
 2, 19, [(.tmp 4)]⟩

/-- (prompter/prompterlaw05.Node).Type$1 -/
abbrev c51_2 : PCode :=
 (.seq (.region [⟨(.some 10), (.mov (.t 0)), .none⟩,
   ⟨(.some 11), (.bin .rem (.t 10) (.c (.d (.int .i64 4)))), .none⟩,
   ⟨(.some 12), (.cvt .u8 (.t 11)), .none⟩,
   ⟨(.some 13), (.bld [(.d (.int .u8 0)), (.d (.int .i64 0)), (.full []), (.full [])] [(0, (1, (.t 12)))]), .none⟩,
   ⟨.none, (.store 4 (.t 5) (.t 13)), .none⟩])
 .ret)
abbrev c51_1 : PCode :=
 (.cond (.t 9)
  c51_2
  .skip)
abbrev c51_3 : PCode :=
 (.keep [0, 1, 2, 3, 5] (.seq (.region [⟨(.some 14), (.faddr 2 (.t 1)), .none⟩,
   ⟨(.some 15), (.load .false 1 (.t 14) .false), .none⟩,
   ⟨(.some 16), (.mov (.t 0)), .none⟩,
   ⟨(.some 17), (.faddr 2 (.t 1)), .none⟩,
   ⟨(.some 18), (.load .false 1 (.t 17) .false), .none⟩,
   ⟨(.some 19), (.len (.t 18)), .none⟩,
   ⟨(.some 20), (.bin .rem (.t 16) (.t 19)), .none⟩,
   ⟨(.some 21), (.iaddr 3 (.t 15) (.t 20)), .none⟩,
   ⟨(.some 22), (.load .true 3 (.t 21) .false), .none⟩,
   ⟨(.some 23), (.load .false 1 (.t 2) .false), .none⟩,
   ⟨(.some 24), (.bin .sub (.t 23) (.c (.d (.int .i64 1)))), .none⟩,
   ⟨(.some 25), (.load .false 1 (.t 3) .false), .none⟩,
   ⟨(.some 26), (.call0 46 [(.t 22), (.t 24), (.t 25)]), .none⟩,
   ⟨.none, (.store 4 (.t 5) (.t 26)), .none⟩])
 .ret))
abbrev c51_0 : PCode :=
 (.seq (.seq (.region [⟨(.some 6), (.faddr 2 (.t 1)), .none⟩,
   ⟨(.some 7), (.load .false 1 (.t 6) .false), .none⟩,
   ⟨(.some 8), (.len (.t 7)), .none⟩,
   ⟨(.some 9), (.bin .eql (.t 8) (.c (.d (.int .i64 0)))), .none⟩])
 c51_1)
 c51_3)
def c51 : PFun := ⟨
 (.seq (.region [⟨(.some 5), (.alloc [(.d (.int .u8 0)), (.d (.int .i64 0)), (.full []), (.full [])]), .none⟩])
 c51_0),
 4, 27, [(.cell 5 .true 4)]⟩

/-- (prompter/prompterlaw05.Node).Type -/
abbrev c46_3 : PCode :=
 (.region [⟨(.some 7), (.mov (.c (.d (.int .u8 1)))), .none⟩])
abbrev c46_2 : PCode :=
 (.cond (.t 36)
  c46_3
  .skip)
abbrev c46_9 : PCode :=
 (.region [⟨(.some 43), (.faddr 1 (.t 3)), .none⟩,
   ⟨(.some 44), (.load .false 1 (.t 43) .false), .none⟩,
   ⟨(.some 45), (.bin .rem (.t 44) (.c (.d (.int .u8 60)))), .none⟩,
   ⟨(.some 46), (.cvt .i64 (.t 45)), .none⟩,
   ⟨(.some 47), (.bin .add (.c (.d (.int .i64 1))) (.t 46)), .none⟩,
   ⟨(.some 48), (.faddr 1 (.t 9)), .none⟩,
   ⟨.none, (.store 1 (.t 48) (.t 47)), .none⟩])
abbrev c46_12 : PCode :=
 (.region [⟨(.some 51), (.faddr 1 (.t 3)), .none⟩,
   ⟨(.some 52), (.load .false 1 (.t 51) .false), .none⟩,
   ⟨(.some 53), (.bin .rem (.t 52) (.c (.d (.int .u8 60)))), .none⟩,
   ⟨(.some 54), (.cvt .i64 (.t 53)), .none⟩,
   ⟨(.some 55), (.bin .add (.c (.d (.int .i64 1))) (.t 54)), .none⟩,
   ⟨(.some 56), (.mov (.t 8)), .none⟩,
   ⟨(.some 57), (.callvp (.t 56) [(.c (.d (.int .i64 0)))]), .none⟩,
   ⟨(.some 58), (.bsl 4 [(.t 57)]), .none⟩,
   ⟨(.some 59), (.faddr 1 (.t 9)), .none⟩,
   ⟨.none, (.store 1 (.t 59) (.t 55)), .none⟩,
   ⟨(.some 60), (.faddr 3 (.t 9)), .none⟩,
   ⟨.none, (.store 1 (.t 60) (.t 58)), .none⟩])
abbrev c46_17 : PCode :=
 (.region [⟨(.some 64), (.bin .eql (.t 40) (.c (.d (.int .u8 7)))), .none⟩,
   ⟨(.some 61), (.mov (.t 64)), .none⟩])
abbrev c46_16 : PCode :=
 (.cond (.t 61)
  .skip
  c46_17)
abbrev c46_15 : PCode :=
 (.seq (.region [⟨(.some 63), (.bin .eql (.t 40) (.c (.d (.int .u8 8)))), .none⟩,
   ⟨(.some 61), (.mov (.t 63)), .none⟩])
 c46_16)
abbrev c46_14 : PCode :=
 (.cond (.t 61)
  .skip
  c46_15)
abbrev c46_25 : PCode :=
 (.region [⟨(.some 84), (.faddr 3 (.t 9)), .none⟩,
   ⟨(.some 85), (.load .false 1 (.t 84) .false), .none⟩,
   ⟨(.some 86), (.mov (.t 8)), .none⟩,
   ⟨(.some 87), (.mov (.t 10)), .none⟩,
   ⟨(.some 88), (.callvp (.t 86) [(.t 87)]), .none⟩,
   ⟨(.some 89), (.bsl 4 [(.t 88)]), .none⟩,
   ⟨(.some 90), (.app 4 64 (.t 85) (.t 89)), .none⟩,
   ⟨(.some 91), (.faddr 3 (.t 9)), .none⟩,
   ⟨.none, (.store 1 (.t 91) (.t 90)), .none⟩])
abbrev c46_24 : PCode :=
 (.cond (.t 83)
  c46_25
  .skip)
abbrev c46_23 : PCode :=
 (.keep [3, 6, 7, 8, 9, 10, 69, 70] (.seq (.region [⟨(.some 82), (.mov (.t 7)), .none⟩,
   ⟨(.some 83), (.bin .neq (.t 82) (.c (.d (.int .u8 7)))), .none⟩])
 c46_24))
abbrev c46_22 : PCode :=
 (.seq (.region [⟨(.some 73), (.faddr 2 (.t 9)), .none⟩,
   ⟨(.some 74), (.load .false 1 (.t 73) .false), .none⟩,
   ⟨(.some 75), (.mov (.t 10)), .none⟩,
   ⟨(.some 76), (.faddr 1 (.t 3)), .none⟩,
   ⟨(.some 77), (.load .false 1 (.t 76) .false), .none⟩,
   ⟨(.some 78), (.callp 52 [(.t 75), (.t 77)]), .none⟩,
   ⟨(.some 79), (.bsl 1 [(.t 78)]), .none⟩,
   ⟨(.some 80), (.app 1 16 (.t 74) (.t 79)), .none⟩,
   ⟨(.some 81), (.faddr 2 (.t 9)), .none⟩,
   ⟨.none, (.store 1 (.t 81) (.t 80)), .none⟩])
 c46_23)
abbrev c46_21 : PCode :=
 (.block 2 (.seq (.region [⟨(.some 72), (.mov (.t 70)), .none⟩,
   ⟨(.some 10), (.mov (.t 72)), .none⟩])
 c46_22))
abbrev c46_20 : PCode :=
 (.keep [3, 6, 7, 8, 9, 69, 70] (.block 1 (.loop (.some [70, 3, 6, 7, 8, 9, 69]) (.seq (.region [⟨(.some 71), (.bin .lss (.t 70) (.t 69)), .none⟩])
 (.seq (.cond (.t 71)
  .skip
  (.exit 1))
 (.seq c46_21
 (.region [⟨(.some 92), (.bin .add (.t 70) (.c (.d (.int .i64 1)))), .none⟩,
   ⟨(.some 70), (.mov (.t 92)), .none⟩])))))))
abbrev c46_19 : PCode :=
 (.seq (.region [⟨(.some 65), (.faddr 1 (.t 3)), .none⟩,
   ⟨(.some 66), (.load .false 1 (.t 65) .false), .none⟩,
   ⟨(.some 67), (.bin .rem (.t 66) (.c (.d (.int .u8 3)))), .none⟩,
   ⟨(.some 68), (.cvt .i64 (.t 67)), .none⟩,
   ⟨(.some 69), (.bin .add (.c (.d (.int .i64 1))) (.t 68)), .none⟩,
   ⟨(.some 70), (.mov (.c (.d (.int .i64 0)))), .none⟩])
 c46_20)
abbrev c46_28 : PCode :=
 (.region [⟨(.some 95), (.load .false 1 (.t 5) .false), .none⟩,
   ⟨(.some 96), (.faddr 1 (.t 3)), .none⟩,
   ⟨(.some 97), (.load .false 1 (.t 96) .false), .none⟩,
   ⟨(.some 98), (.cvt .i64 (.t 97)), .none⟩,
   ⟨(.some 99), (.load .false 1 (.t 5) .false), .none⟩,
   ⟨(.some 100), (.len (.t 99)), .none⟩,
   ⟨(.some 101), (.bin .rem (.t 98) (.t 100)), .none⟩,
   ⟨(.some 102), (.iaddr 1 (.t 95) (.t 101)), .none⟩,
   ⟨(.some 103), (.load .false 1 (.t 102) .false), .none⟩,
   ⟨(.some 104), (.bsl 1 [(.t 103)]), .none⟩,
   ⟨(.some 105), (.faddr 2 (.t 9)), .none⟩,
   ⟨.none, (.store 1 (.t 105) (.t 104)), .none⟩])
abbrev c46_27 : PCode :=
 (.cond (.t 93)
  c46_28
  .skip)
abbrev c46_26 : PCode :=
 (.seq (.region [⟨(.some 94), (.bin .eql (.t 40) (.c (.d (.int .u8 9)))), .none⟩,
   ⟨(.some 93), (.mov (.t 94)), .none⟩])
 c46_27)
abbrev c46_18 : PCode :=
 (.keep [3, 5, 6, 7, 8, 9, 40, 61] (.cond (.t 61)
  c46_19
  c46_26))
abbrev c46_13 : PCode :=
 (.seq (.seq (.region [⟨(.some 62), (.bin .eql (.t 40) (.c (.d (.int .u8 6)))), .none⟩,
   ⟨(.some 61), (.mov (.t 62)), .none⟩])
 c46_14)
 c46_18)
abbrev c46_11 : PCode :=
 (.cond (.t 49)
  c46_12
  c46_13)
abbrev c46_10 : PCode :=
 (.seq (.region [⟨(.some 50), (.bin .eql (.t 40) (.c (.d (.int .u8 5)))), .none⟩,
   ⟨(.some 49), (.mov (.t 50)), .none⟩])
 c46_11)
abbrev c46_8 : PCode :=
 (.cond (.t 41)
  c46_9
  c46_10)
abbrev c46_7 : PCode :=
 (.block 0 (.seq (.region [⟨(.some 42), (.bin .eql (.t 40) (.c (.d (.int .u8 4)))), .none⟩,
   ⟨(.some 41), (.mov (.t 42)), .none⟩])
 c46_8))
abbrev c46_29 : PCode :=
 (.keep [6, 9] (.seq (.region [⟨(.some 106), (.load .true 4 (.t 9) .false), .none⟩,
   ⟨.none, (.store 4 (.t 6) (.t 106)), .none⟩])
 .ret))
abbrev c46_6 : PCode :=
 (.keep [3, 5, 6, 7, 8, 9] (.seq (.seq (.region [⟨(.some 40), (.mov (.t 7)), .none⟩])
 c46_7)
 c46_29))
abbrev c46_5 : PCode :=
 (.seq (.region [⟨(.some 38), (.mov (.t 7)), .none⟩,
   ⟨(.some 39), (.bld [(.d (.int .u8 0)), (.d (.int .i64 0)), (.full []), (.full [])] [(0, (1, (.t 38)))]), .none⟩,
   ⟨(.some 9), (.alloc [(.d (.int .u8 0)), (.d (.int .i64 0)), (.full []), (.full [])]), .none⟩,
   ⟨.none, (.store 4 (.t 9) (.t 39)), .none⟩])
 c46_6)
abbrev c46_4 : PCode :=
 (.keep [3, 4, 5, 6, 7] (.seq (.region [⟨(.some 37), (.mkfn 51 [] [(.t 3), (.t 4), (.t 5)]), .none⟩,
   ⟨(.some 8), (.mov (.t 37)), .none⟩])
 c46_5))
abbrev c46_1 : PCode :=
 (.keep [3, 4, 5, 6, 7] (.seq (.seq (.region [⟨(.some 14), (.mov (.t 7)), .none⟩,
   ⟨(.some 15), (.bin .eql (.t 14) (.c (.d (.int .u8 9)))), .none⟩,
   ⟨(.some 16), (.mov (.t 15)), .none⟩,
   ⟨(.some 17), (.load .false 1 (.t 5) .false), (.some (16, .true))⟩,
   ⟨(.some 18), (.len (.t 17)), (.some (16, .true))⟩,
   ⟨(.some 19), (.bin .eql (.t 18) (.c (.d (.int .i64 0)))), (.some (16, .true))⟩,
   ⟨(.some 20), (.pick (.t 16) (.t 19) (.c (.d (.bool .false)))), .none⟩,
   ⟨(.some 21), (.mov (.t 20)), .none⟩,
   ⟨(.some 22), (.load .false 1 (.t 4) .false), (.some (21, .false))⟩,
   ⟨(.some 23), (.bin .leq (.t 22) (.c (.d (.int .i64 1)))), (.some (21, .false))⟩,
   ⟨(.some 24), (.mov (.t 23)), (.some (21, .false))⟩,
   ⟨(.some 25), (.mov (.t 7)), (.some (24, .true))⟩,
   ⟨(.some 26), (.bin .eql (.t 25) (.c (.d (.int .u8 5)))), (.some (24, .true))⟩,
   ⟨(.some 27), (.mov (.t 26)), (.some (24, .true))⟩,
   ⟨(.some 28), (.mov (.t 7)), (.some (27, .false))⟩,
   ⟨(.some 29), (.bin .eql (.t 28) (.c (.d (.int .u8 6)))), (.some (27, .false))⟩,
   ⟨(.some 30), (.pick (.t 27) (.c (.d (.bool .true))) (.t 29)), (.some (24, .true))⟩,
   ⟨(.some 31), (.mov (.t 30)), (.some (24, .true))⟩,
   ⟨(.some 32), (.mov (.t 7)), (.some (31, .false))⟩,
   ⟨(.some 33), (.bin .eql (.t 32) (.c (.d (.int .u8 8)))), (.some (31, .false))⟩,
   ⟨(.some 34), (.pick (.t 31) (.c (.d (.bool .true))) (.t 33)), (.some (24, .true))⟩,
   ⟨(.some 35), (.pick (.t 24) (.t 34) (.c (.d (.bool .false)))), (.some (21, .false))⟩,
   ⟨(.some 36), (.pick (.t 21) (.c (.d (.bool .true))) (.t 35)), .none⟩])
 c46_2)
 c46_4))
abbrev c46_0 : PCode :=
 (.keep [3, 4, 5, 6] (.seq (.region [⟨(.some 11), (.faddr 0 (.t 3)), .none⟩,
   ⟨(.some 12), (.load .false 1 (.t 11) .false), .none⟩,
   ⟨(.some 13), (.bin .rem (.t 12) (.c (.d (.int .u8 10)))), .none⟩,
   ⟨(.some 7), (.mov (.t 13)), .none⟩])
 c46_1))
def c46 : PFun := ⟨
 (.seq (.region [⟨(.some 3), (.box 3 (.t 0)), .none⟩,
   ⟨(.some 4), (.box 1 (.t 1)), .none⟩,
   ⟨(.some 5), (.box 1 (.t 2)), .none⟩,
   ⟨(.some 6), (.alloc [(.d (.int .u8 0)), (.d (.int .i64 0)), (.full []), (.full [])]), .none⟩])
 c46_0),
 3, 107, [(.cell 6 .true 4)]⟩

theorem e34 : entered Try.prog 34 = true := by kernel_rfl
theorem k34 : compFun Try.prog (fun _ => 0) 34 = some c34.er := by kernel_rfl
theorem e52 : entered Try.prog 52 = true := by kernel_rfl
theorem k52 : compFun Try.prog (fun _ => 0) 52 = some c52.er := by kernel_rfl
theorem e51 : entered Try.prog 51 = true := by kernel_rfl
theorem k51 : compFun Try.prog (fun _ => 0) 51 = some c51.er := by kernel_rfl
theorem e46 : entered Try.prog 46 = true := by kernel_rfl
theorem k46 : compFun Try.prog (fun _ => 1) 46 = some c46.er := by kernel_rfl


theorem C34 (x : Nd) : ∀ (deep : Int), x.fit → 0 ≤ deep ∧ deep ≤ 1000 → Pure (PCalls Try.prog GG) 34 [x.av, .d (.int .i64 deep)] (b2 (x.light deep)) := by
  induction x using Nd.ind' with
  | h x ih =>
  intro deep hf hd
  rw [Nd.fit_eq] at hf
  obtain ⟨hk, hn, ho, hf⟩ := hf
  rw [Nd.light_eq]
  intro st; refine pcalls_of k34 e34 (of_decide_eq_true rfl) ?_; dsimp only [c34]; refine pstartL ?_; intro t hL; generalize hQ : pfin _ _ = Q
  refine gor hL ?_; (repeat (clear hL; intro t hL; refine gor hL ?_))
  (refine gor hL ?_; (repeat (clear hL; intro t hL; refine gor hL ?_))); refine po_boxA hL ?_; clear hL; intro p1 t hL
  refine gor hL ?_; (repeat (clear hL; intro t hL; refine gor hL ?_))
  (apply prangeK hL (x.of.length) (by omega) (fun k => (k = 0 ∨ 1 ≤ deep) ∧ (x.of.take k).all (fun x => x.light (deep - 1)) = true)); (· exact trimA); (· exact fun _ => rfl)
  · exact ⟨.inl rfl, rfl⟩
  · intro t hL hI
    rw [List.take_length] at hI
    refine gor hL ?_; (repeat (clear hL; intro t hL; refine gor hL ?_))
    rw [← hQ]
    refine pfin_pure (congrArg (fun z => some (b2 z)) ?_) hL.le
    have : (x.of.isEmpty || decide (1 ≤ deep) && x.of.all fun x => x.light (deep - 1)) = true := by
      rcases hI with ⟨h1, h2⟩
      rcases h1 with h1 | h1
      · simp [List.eq_nil_of_length_eq_zero h1]
      · simp [h1, h2]
    rw [this, Bool.true_and]
    rw [decide_eq_decide]; omega
  · intro k hk t hL hI
    obtain ⟨y, hy, hm⟩ := elem_at hk
    refine pblock ?_
    refine gor hL ?_; (repeat (clear hL; intro t hL; refine gor hL ?_))
    (refine gor hL ?_; (repeat (clear hL; intro t hL; refine gor hL ?_))); (with_reducible refine po_allocL hL rfl ?_); clear hL; intro p2 t hL
    refine gor hL ?_; (repeat (clear hL; intro t hL; refine gor hL ?_))
    refine gnm ?_; rw [IntWalk.i64_in (deep - 1) (by omega)]
    ((with_reducible apply po_g); (· exact gwt); (· (intro hw; refine does_call0 ?_ (ih y hm (deep - 1) (hf y hm) (by simp at hw; omega)); exact gargs hw)))
    refine gor hL ?_; (repeat (clear hL; intro t hL; refine gor hL ?_))
    have hsn := take_snoc hy
    refine pcond_b rfl (fun h1 => ?_) (fun h1 => ?_)
    · refine gor hL ?_; (repeat (clear hL; intro t hL; refine gor hL ?_))
      rw [← hQ]
      refine pfin_pure (congrArg (fun z => some (b2 z)) ?_) hL.le
      simp only [Bool.or_eq_true, decide_eq_true_eq, Bool.not_eq_true'] at h1
      have hne : x.of.isEmpty = false := by cases hx : x.of with | nil => rw [hx] at hm; cases hm | cons => rfl
      rw [hne, Bool.false_or]
      rcases h1 with h1 | h1
      · simp [show ¬ 1 ≤ deep by omega]
      · rw [List.all_eq_false.2 ⟨y, hm, by simp [h1]⟩]; simp
    · refine gor hL ?_; (repeat (clear hL; intro t hL; refine gor hL ?_))
      refine ⟨hL.pk, ?_, tr2⟩
      simp only [Bool.or_eq_false_iff, decide_eq_false_iff_not, Bool.not_eq_false'] at h1
      refine ⟨.inr (by omega), ?_⟩
      rw [hsn, List.all_append, hI.2]
      simp [h1.2]

theorem C52 (i : Nat) (n : Int) (hi : i < 2 ^ 60) (hn : 0 ≤ n ∧ n ≤ 255) : Pure (PCalls Try.prog GG) 52 [i64 i, .d (.int .u8 n)] (.d (.str (nameOf i n))) := by
  intro st; refine pcalls_of k52 e52 (of_decide_eq_true rfl) ?_; dsimp only [c52]; refine pstartL ?_; intro t hL; generalize hQ : pfin _ _ = Q
  refine gor hL ?_; (repeat (clear hL; intro t hL; refine gor hL ?_))
  rw [← hQ]
  refine pfin_pure (congrArg (fun z => some (AV.d (Dat.str z))) ?_) hL.le
  have e1 := IntWalk.rem_in (i : Int) 26 (by omega)
  have e2 := IntWalk.rem_in n 26 (by omega)
  have e3 : (i : Int).tdiv 26 = ((i / 26 : Nat) : Int) := by rw [Int.tdiv_eq_ediv_of_nonneg (by omega)]; omega
  have e4 := IntWalk.rem_in ((i / 26 : Nat) : Int) 10 (by omega)
  simp only [nameOf, bs, List.map_cons, List.map_nil]
  rw [e1, e2, e3, IntWalk.i64_in ((i / 26 : Nat) : Int) (by omega), e4, IntWalk.i64_in _ (by omega), IntWalk.i64_in _ (by omega), IntWalk.u8_in _ (by omega), IntWalk.u8_in _ (by omega), IntWalk.u8_in _ (by omega)]
  have f1 : (97 + (i : Int) % 26).toNat = 97 + i % 26 := by omega
  have f2 : (48 + ((i / 26 : Nat) : Int) % 10).toNat = 48 + i / 26 % 10 := by omega
  rw [f1, f2]

theorem nodeSub (d : Nat) (x : Nd) (known : List ByteArray) (hd : d + 1 ≤ 1000) (hx : x.fit) (IH : ∀ y : Nd, y.fit → Pure (PCalls Try.prog GG) 46 [y.av, i64 d, .d (strs known)] (Nd.typ d y known).av)
    (i : Nat) (hi : i < 2 ^ 60) {st : St} {p3 p4 p5 : Nat} (h3 : st.box p3 = some [.d (.int .u8 x.kind), .d (.int .u8 x.n), .d (.sl (x.of.map Nd.row))]) (h4 : st.box p4 = some [i64 (d + 1 : Nat)]) (h5 : st.box p5 = some [.d (strs known)]) :
    PureAt (PCalls Try.prog GG) st 51 [i64 i, ptrAt p3, ptrAt p4, ptrAt p5] (Nd.subW (fun y => Nd.typ d y known) x i).av := by
  rw [Nd.fit_eq] at hx
  obtain ⟨hk, hn, ho, hf⟩ := hx
  refine pcalls_of k51 e51 (of_decide_eq_true rfl) ?_; dsimp only [c51]
  refine pstartL ?_; intro t hL; generalize hQ : pfin _ _ = Q
  (refine gor hL ?_; (repeat (clear hL; intro t hL; refine gor hL ?_))); (with_reducible refine po_allocL hL rfl ?_); clear hL; intro p6 t hL
  refine gor hL ?_; (repeat (clear hL; intro t hL; refine gor hL ?_))
  refine pcond_b rfl (fun h1 => ?_) (fun h1 => ?_)
  · have h1' : x.of = [] := List.eq_nil_of_length_eq_zero (by simpa using h1)
    refine gor hL ?_; (repeat (clear hL; intro t hL; refine gor hL ?_))
    rw [← hQ]
    refine pwk1 hL ?_
    rw [KT.av_eq, Nd.subW, h1']
    simp [AV.weak, AV.weak1, KT.kind, KT.most, KT.names, KT.of]
    rw [IntWalk.rem_in _ _ (by omega), IntWalk.u8_in _ (by omega)]
  · have h1' : x.of.length ≠ 0 := by simpa using h1
    have hj : i % x.of.length < x.of.length := Nat.mod_lt _ (by omega)
    obtain ⟨y, hy, hm⟩ := elem_at hj
    refine gor hL ?_; (repeat (clear hL; intro t hL; refine gor hL ?_))
    refine po_remN rfl rfl h1' ?_
    refine gor hL ?_; (repeat (clear hL; intro t hL; refine gor hL ?_))
    refine gnm ?_; rw [IntWalk.i64_in (((d + 1 : Nat) : Int) - 1) (by omega), show ((d + 1 : Nat) : Int) - 1 = d by omega]
    refine po_call rfl (IH y (hf y hm)) (fun _ _ h => False.elim h) ?_
    rw [KT.av_eq]
    refine gor hL ?_; (repeat (clear hL; intro t hL; refine gor hL ?_))
    rw [← hQ]
    refine pwk1 hL ?_
    rw [Nd.subW, hy, KT.av_eq]
    rfl

theorem nodeType (D : Nat) (x : Nd) (known : List ByteArray) (sub : Nat → KT) (hD : D ≤ 1000) (hx : x.fit) (hkn : known.length < 2 ^ 48)
    (hsub : (x.kd D known = 5 ∨ x.kd D known = 6 ∨ x.kd D known = 8) → ∀ (i : Nat) (t : St) (p3 p4 p5 : Nat), i < 2 ^ 60 → t.box p3 = some [.d (.int .u8 x.kind), .d (.int .u8 x.n), .d (.sl (x.of.map Nd.row))] → t.box p4 = some [i64 D] → t.box p5 = some [.d (strs known)] →
      PureAt (PCalls Try.prog GG) t 51 [i64 i, ptrAt p3, ptrAt p4, ptrAt p5] (sub i).av) :
    Pure (PCalls Try.prog GG) 46 [x.av, i64 D, .d (strs known)] (x.typW (x.kd D known) known sub).av := by
  have hxf := hx
  rw [Nd.fit_eq] at hx
  obtain ⟨hk, hn, ho, hf⟩ := hx
  have hkd := Nd.kd_ge (t := x) (deep := D) (known := known)
  have hknown := Nd.kd_known (t := x) (deep := D) (known := known)
  intro st; refine pcalls_of k46 e46 (of_decide_eq_true rfl) ?_; dsimp only [c46]; refine pstartL ?_; intro t hL; generalize hQ : pfin _ _ = Q
  (refine gor hL ?_; (repeat (clear hL; intro t hL; refine gor hL ?_))); refine po_boxA hL ?_; clear hL; intro p3 t hL
  (refine gor hL ?_; (repeat (clear hL; intro t hL; refine gor hL ?_))); refine po_boxA hL ?_; clear hL; intro p4 t hL
  (refine gor hL ?_; (repeat (clear hL; intro t hL; refine gor hL ?_))); refine po_boxA hL ?_; clear hL; intro p5 t hL
  (refine gor hL ?_; (repeat (clear hL; intro t hL; refine gor hL ?_))); (with_reducible refine po_allocL hL rfl ?_); clear hL; intro p6 t hL
  refine gor hL ?_; (repeat (clear hL; intro t hL; refine gor hL ?_))
  refine pselK ?_
  refine gor hL ?_; (repeat (clear hL; intro t hL; refine gor hL ?_))
  refine ⟨_, rfl, ?_⟩
  have hval : (if (x.kind.tmod 10 == 9 && (known.length : Int) == 0 || decide ((D : Int) ≤ 1) && (x.kind.tmod 10 == 5 || x.kind.tmod 10 == 6 || x.kind.tmod 10 == 8)) = true then (AV.d (.int .u8 1)) else AV.d (.int .u8 (x.kind.tmod 10))) = AV.d (.int .u8 (x.kd D known)) := by
    rw [IntWalk.rem_in _ _ (by omega), Nd.kd]
    by_cases h : (x.kind % 10 = 9 ∧ known.length = 0) ∨ (D ≤ 1 ∧ (x.kind % 10 = 5 ∨ x.kind % 10 = 6 ∨ x.kind % 10 = 8))
    · rw [if_pos h, if_pos]
      simp only [Bool.or_eq_true, Bool.and_eq_true, beq_iff_eq, decide_eq_true_eq]
      omega
    · rw [if_neg h, if_neg]
      simp only [Bool.or_eq_true, Bool.and_eq_true, beq_iff_eq, decide_eq_true_eq]
      omega
  refine gnm ?_; rw [hval]
  clear hval
  generalize x.kd D known = kk at *
  (refine gor hL ?_; (repeat (clear hL; intro t hL; refine gor hL ?_))); (with_reducible refine po_allocL hL rfl ?_); clear hL; intro p9 t hL
  refine gor hL ?_; (repeat (clear hL; intro t hL; refine gor hL ?_))
  refine pseqk ?_
  refine gor hL ?_; (repeat (clear hL; intro t hL; refine gor hL ?_))
  refine pcond_b rfl (fun h4 => ?_) (fun h4 => ?_)
  · have h4' : kk = 4 := by simpa using h4
    subst h4'
    refine gor hL ?_; (repeat (clear hL; intro t hL; refine gor hL ?_))
    rw [← hQ]
    refine pwk1 hL ?_
    rw [KT.av_eq, Nd.typW, if_pos rfl]
    simp [AV.weak, AV.weak1, KT.kind, KT.most, KT.names, KT.of]
    rw [IntWalk.rem_in _ _ (by omega), IntWalk.i64_in (x.n % 60) (by omega), IntWalk.i64_in _ (by omega)]
  have h4' : kk ≠ 4 := by simpa using h4
  refine gor hL ?_; (repeat (clear hL; intro t hL; refine gor hL ?_))
  refine pcond_b rfl (fun h5 => ?_) (fun h5 => ?_)
  · have h5' : kk = 5 := by simpa using h5
    subst h5'
    refine gor hL ?_; (repeat (clear hL; intro t hL; refine gor hL ?_))
    refine po_callvp rfl rfl (hsub (.inl rfl) 0 t p3 p4 p5 (by decide) (hL.bk) (hL.bk) (hL.bk)) ?_
    rw [KT.av_eq]
    refine gor hL ?_; (repeat (clear hL; intro t hL; refine gor hL ?_))
    rw [← hQ]
    refine pwk1 hL ?_
    rw [KT.av_eq, Nd.typW, if_neg (by decide), if_pos rfl]
    simp [AV.weak, AV.weak1, KT.kind, KT.most, KT.names, KT.of, KT.row_eq, KT.cs]
    rw [IntWalk.rem_in _ _ (by omega), IntWalk.i64_in (x.n % 60) (by omega), IntWalk.i64_in _ (by omega)]
  have h5' : kk ≠ 5 := by simpa using h5
  refine gor hL ?_; (repeat (clear hL; intro t hL; refine gor hL ?_))
  refine pjoin (fun s u => u = t ∧ s = put (put (put (put (put (put (put (put (fun _ => .undef) (some 61) (b2 (decide (kk = 6 ∨ kk = 8 ∨ kk = 7)))) (some 40) (.d (.int .u8 kk))) (some 9) (ptrAt p9)) (some 8) (.d (.fn 51 [] [.ptr p3 0, .ptr p4 0, .ptr p5 0]))) (some 7) (.d (.int .u8 kk))) (some 6) (ptrAt p6)) (some 5) (ptrAt p5)) (some 3) (ptrAt p3)) ?_ ?_
  · refine gor hL ?_; (repeat (clear hL; intro t hL; refine gor hL ?_))
    refine pcond_b rfl (fun h6 => ?_) (fun h6 => ?_)
    · obtain rfl : kk = 6 := by simpa using h6
      refine gor hL ?_; (repeat (clear hL; intro t hL; refine gor hL ?_))
      exact ⟨tr2, tr2⟩
    · have h6' : kk ≠ 6 := by simpa using h6
      refine gor hL ?_; (repeat (clear hL; intro t hL; refine gor hL ?_))
      refine pcond_b rfl (fun h8 => ?_) (fun h8 => ?_)
      · obtain rfl : kk = 8 := by simpa using h8
        refine gor hL ?_; (repeat (clear hL; intro t hL; refine gor hL ?_))
        exact ⟨tr2, tr2⟩
      · have h8' : kk ≠ 8 := by simpa using h8
        refine gor hL ?_; (repeat (clear hL; intro t hL; refine gor hL ?_))
        refine ⟨tr2, ?_⟩
        rw [show decide (kk = 6 ∨ kk = 8 ∨ kk = 7) = (kk == 7) by rw [Bool.eq_iff_iff]; simp; omega]
        rfl
  rintro s u ⟨rfl, rfl⟩
  refine pcond_b rfl (fun h678 => ?_) (fun h678 => ?_)
  · have h678' : kk = 6 ∨ kk = 8 ∨ kk = 7 := by simpa using h678
    have hmany : x.many < 10 := by unfold Nd.many; omega
    have hm2 : IntKind.i64.wrap (1 + IntKind.i64.wrap (x.n.tmod 3)) = (x.many : Int) := by
      rw [IntWalk.rem_in _ _ (by omega), IntWalk.i64_in (x.n % 3) (by omega), IntWalk.i64_in _ (by omega), Nd.many]; omega
    refine gor hL ?_; (repeat (clear hL; intro t hL; refine gor hL ?_))
    refine gnm ?_; rw [hm2]
    have hlenN : ∀ k, ∀ r ∈ ((List.range k).map fun i => [Dat.str (nameOf i x.n)]), r.length = 1 := fun k r hr => by
      obtain ⟨i, _, rfl⟩ := List.mem_map.1 hr; rfl
    have hlenO : ∀ k, ∀ r ∈ (if kk = 7 then [] else (List.range k).map fun i => (sub i).row), r.length = 4 := fun k r hr => by
      split at hr
      · cases hr
      · obtain ⟨i, _, rfl⟩ := List.mem_map.1 hr; exact KT.row_len _
    (apply prangeJ (x.many) (by omega) (fun k t => ∃ vN vO, VF vN ((List.range k).map fun i => [Dat.str (nameOf i x.n)]) ∧ VF vO (if kk = 7 then [] else (List.range k).map fun i => (sub i).row) ∧ Lay st [.box p9 [.d (.int .u8 kk), .d (.int .i64 0), vN, vO], .vec vN ((List.range k).map fun i => [Dat.str (nameOf i x.n)]) 1, .vec vO (if kk = 7 then [] else (List.range k).map fun i => (sub i).row) 4, .box p6 [.d (.int .u8 0), .d (.int .i64 0), .full [], .full []], .box p5 [.d (strs known)], .box p4 [i64 D], .box p3 [.d (.int .u8 x.kind), .d (.int .u8 x.n), .d (.sl (x.of.map Nd.row))]] t)); (· exact trimA); (· exact fun _ => rfl)
    · refine ⟨.full [], .full [], ?_⟩
      simp only [List.range_zero, List.map_nil, ite_self]
      exact ⟨VF.full _, VF.full _, ((hL.full [] 4).full [] 1).pk⟩
    · rintro t ⟨vN, vO, fN, fO, hL⟩
      obtain ⟨fN_r, fN_w, fN_w1, fN_c, fN_s, fN_d⟩ := id fN
      obtain ⟨fO_r, fO_w, fO_w1, fO_c, fO_s, fO_d⟩ := id fO
      refine gor hL ?_; (repeat (clear hL; intro t hL; refine gor hL ?_))
      refine gor hL ?_; (repeat (clear hL; intro t hL; refine gor hL ?_))
      rw [← hQ]
      refine pwk1 hL ?_
      rw [KT.av_eq, Nd.typW, if_neg h4', if_neg h5']
      simp only [pvwk, fN_w1, fO_w1]
      by_cases h7 : kk = 7
      · rw [if_neg (show ¬ (kk = 6 ∨ kk = 8) by omega), if_pos h7]
        simp only [ktp, h7, if_true, List.map_map, List.map_nil]
        rfl
      · rw [if_pos (show kk = 6 ∨ kk = 8 by omega)]
        simp only [ktp, h7, if_false, List.map_map]
        rfl
    · rintro k hk t ⟨vN, vO, fN, fO, hL⟩
      obtain ⟨fN_r, fN_w, fN_w1, fN_c, fN_s, fN_d⟩ := id fN
      obtain ⟨fO_r, fO_w, fO_w1, fO_c, fO_s, fO_d⟩ := id fO
      refine gor hL ?_; (repeat (clear hL; intro t hL; refine gor hL ?_))
      refine po_callp rfl (C52 k x.n (by omega) hn) ?_
      refine gor hL ?_; (repeat (clear hL; intro t hL; refine gor hL ?_))
      refine po_appA hL (hlenN k) ?_ ?_; (· simp; omega); clear hL; intro vN' t fN' hL; obtain ⟨fN'_r, fN'_w, fN'_w1, fN'_c, fN'_s, fN'_d⟩ := id fN'
      rw [show ((List.range k).map fun i => [Dat.str (nameOf i x.n)]) ++ [[Dat.str (nameOf k x.n)]] = (List.range (k + 1)).map fun i => [Dat.str (nameOf i x.n)] by rw [List.range_succ, List.map_append]; rfl] at fN' hL fN'_r fN'_w fN'_w1
      refine gor hL ?_; (repeat (clear hL; intro t hL; refine gor hL ?_))
      refine pcond_b rfl (fun h7 => ?_) (fun h7 => ?_)
      · have h7' : kk ≠ 7 := by simpa using h7
        rw [if_neg h7'] at fO hL fO_r fO_w fO_w1
        simp only [if_neg h7'] at hlenO
        refine gor hL ?_; (repeat (clear hL; intro t hL; refine gor hL ?_))
        refine po_callvp rfl rfl (hsub (by omega) k t p3 p4 p5 (by omega) (hL.bk) (hL.bk) (hL.bk)) ?_
        rw [KT.av_eq]
        refine gor hL ?_; (repeat (clear hL; intro t hL; refine gor hL ?_))
        refine po_appA hL (hlenO k) ?_ ?_; (· simp; omega); clear hL; intro vO' t fO' hL; obtain ⟨fO'_r, fO'_w, fO'_w1, fO'_c, fO'_s, fO'_d⟩ := id fO'
        have hr' : ((List.range k).map fun i => (sub i).row) ++ [(sub k).row] = (List.range (k + 1)).map fun i => (sub i).row := by rw [List.range_succ, List.map_append]; rfl
        rw [KT.row_eq] at hr'
        simp only [KT.cs] at hr'
        rw [hr'] at fO' hL
        refine gor hL ?_; (repeat (clear hL; intro t hL; refine gor hL ?_))
        refine ⟨⟨vN', vO', fN', ?_, ?_⟩, tr2⟩
        · rw [if_neg h7']; exact fO'
        · rw [if_neg h7']; exact hL.pk
      · obtain rfl : kk = 7 := by simpa using h7
        rw [if_pos rfl] at fO hL fO_r fO_w fO_w1
        refine gor hL ?_; (repeat (clear hL; intro t hL; refine gor hL ?_))
        refine ⟨⟨vN', vO, fN', ?_, ?_⟩, tr2⟩
        · rw [if_pos (by trivial)]; exact fO
        · rw [if_pos (by trivial)]; exact hL.pk
  · have h678' : ¬ (kk = 6 ∨ kk = 8 ∨ kk = 7) := by simpa using h678
    refine gor hL ?_; (repeat (clear hL; intro t hL; refine gor hL ?_))
    refine pcond_b rfl (fun h9 => ?_) (fun h9 => ?_)
    · obtain rfl : kk = 9 := by simpa using h9
      have hn0 := hknown rfl
      have hxn : x.n = ((x.n.toNat : Nat) : Int) := by omega
      have hj : x.n.toNat % known.length < known.length := Nat.mod_lt _ (by omega)
      obtain ⟨y, hy, hm⟩ := elem_at hj
      refine gor hL ?_; (repeat (clear hL; intro t hL; refine gor hL ?_))
      refine gnm ?_; rw [IntWalk.i64_in x.n (by omega), hxn]
      refine po_remN rfl rfl hn0 ?_
      refine gor hL ?_; (repeat (clear hL; intro t hL; refine gor hL ?_))
      rw [← hQ]
      refine pwk1 hL ?_
      rw [KT.av_eq, Nd.typW, if_neg (by decide), if_neg (by decide), if_neg (by decide), if_neg (by decide), if_pos rfl]
      simp [AV.weak, AV.weak1, KT.kind, KT.most, KT.names, KT.of, hy]
    · have h9' : kk ≠ 9 := by simpa using h9
      refine gor hL ?_; (repeat (clear hL; intro t hL; refine gor hL ?_))
      rw [← hQ]
      refine pwk1 hL ?_
      rw [KT.av_eq, Nd.typW, if_neg h4', if_neg h5', if_neg (by omega), if_neg (by omega), if_neg h9']
      rfl

theorem C46 : ∀ (d : Nat) (x : Nd) (known : List ByteArray), d ≤ 1000 → x.fit → known.length < 2 ^ 48 → Pure (PCalls Try.prog GG) 46 [x.av, i64 d, .d (strs known)] (Nd.typ d x known).av := by
  intro d
  induction d with
  | zero =>
    intro x known hd hx hk
    exact nodeType 0 x known (fun _ => .mk 0 0 [] []) hd hx hk fun h => by have := Nd.kd_deep h; omega
  | succ d ih =>
    intro x known hd hx hk
    exact nodeType (d + 1) x known (Nd.subW (fun y => Nd.typ d y known) x) hd hx hk fun _ i t p3 p4 p5 hi h3 h4 h5 =>
      nodeSub d x known hd hx (fun y hy => ih y known (by omega) hy hk) i hi h3 h4 h5
end Go.Pv
namespace Go.Pv
open Go.Proofs
set_option maxRecDepth 100000
set_option maxHeartbeats 4000000

/-- prompter/value.within -/
abbrev c42_3 : PCode :=
 (.region [⟨(.some 11), (.mov (.t 5)), .none⟩,
   ⟨(.some 12), (.mov (.t 1)), .none⟩,
   ⟨(.some 13), (.bin .add (.t 11) (.t 12)), .none⟩,
   ⟨(.some 5), (.mov (.t 13)), .none⟩])
abbrev c42_2 : PCode :=
 (.cond (.t 10)
  c42_3
  .skip)
abbrev c42_4 : PCode :=
 (.keep [5] (.seq (.region [⟨(.some 14), (.mov (.t 5)), .none⟩,
   ⟨(.some 4), (.mov (.t 14)), .none⟩])
 .ret))
abbrev c42_1 : PCode :=
 (.keep [1, 5] (.seq (.seq (.region [⟨(.some 9), (.mov (.t 5)), .none⟩,
   ⟨(.some 10), (.bin .lss (.t 9) (.c (.d (.int .i64 0)))), .none⟩])
 c42_2)
 c42_4))
abbrev c42_0 : PCode :=
 (.seq (.region [⟨(.some 6), (.mov (.t 0)), .none⟩,
   ⟨(.some 7), (.mov (.t 1)), .none⟩,
   ⟨(.some 8), (.bin .rem (.t 6) (.t 7)), .none⟩,
   ⟨(.some 5), (.mov (.t 8)), .none⟩])
 c42_1)
def c42 : PFun := ⟨
 (.seq (.region [⟨(.some 4), (.mov (.c (.d (.int .i64 0)))), .none⟩])
 c42_0),
 2, 15, [(.tmp 4)]⟩

/-- prompter/value.Build$1 -/
abbrev c40_2 : PCode :=
 (.seq (.region [⟨(.some 2), (.mov (.c (.d (.int .i64 0)))), .none⟩])
 .ret)
abbrev c40_1 : PCode :=
 (.cond (.t 5)
  c40_2
  .skip)
abbrev c40_4 : PCode :=
 (.keep [0, 1] (.seq (.region [⟨(.some 8), (.load .false 1 (.t 0) .false), .none⟩,
   ⟨(.some 9), (.load .false 1 (.t 1) .false), .none⟩,
   ⟨(.some 10), (.bin .sub (.t 9) (.c (.d (.int .i64 1)))), .none⟩,
   ⟨(.some 11), (.load .false 1 (.t 0) .false), .none⟩,
   ⟨(.some 12), (.len (.t 11)), .none⟩,
   ⟨(.some 13), (.bin .rem (.t 10) (.t 12)), .none⟩,
   ⟨(.some 14), (.iaddr 1 (.t 8) (.t 13)), .none⟩,
   ⟨(.some 15), (.load .false 1 (.t 14) .false), .none⟩,
   ⟨(.some 2), (.mov (.t 15)), .none⟩])
 .ret))
abbrev c40_3 : PCode :=
 (.keep [0, 1] (.seq (.region [⟨(.some 6), (.load .false 1 (.t 1) .false), .none⟩,
   ⟨(.some 7), (.bin .add (.t 6) (.c (.d (.int .i64 1)))), .none⟩,
   ⟨.none, (.store 1 (.t 1) (.t 7)), .none⟩])
 c40_4))
abbrev c40_0 : PCode :=
 (.seq (.seq (.region [⟨(.some 3), (.load .false 1 (.t 0) .false), .none⟩,
   ⟨(.some 4), (.len (.t 3)), .none⟩,
   ⟨(.some 5), (.bin .eql (.t 4) (.c (.d (.int .i64 0)))), .none⟩])
 c40_1)
 c40_3)
def c40 : PFun := ⟨
 (.seq (.region [⟨(.some 2), (.mov (.c (.d (.int .i64 0)))), .none⟩])
 c40_0),
 2, 16, [(.tmp 2)]⟩

theorem e42 : entered Try.prog 42 = true := by kernel_rfl
theorem k42 : compFun Try.prog (fun _ => 0) 42 = some c42.er := by kernel_rfl
theorem e40 : entered Try.prog 40 = true := by kernel_rfl
theorem k40 : compFun Try.prog (fun _ => 0) 40 = some c40.er := by kernel_rfl


theorem emod_of {n m : Int} (hm : 0 < m) : (if n.tmod m < 0 then n.tmod m + m else n.tmod m) = n % m := by
  have h1 : n = m * n.tdiv m + n.tmod m := (Int.mul_tdiv_add_tmod n m).symm
  have h2 := Int.tmod_lt_of_pos n hm
  have h3 : -m < n.tmod m := by
    have := Int.tmod_lt_of_pos (-n) hm
    rw [Int.neg_tmod] at this
    omega
  have h4 : n % m = n.tmod m % m := by
    conv => lhs; rw [h1]
    rw [Int.add_comm, Int.add_mul_emod_self_left]
  rw [h4]
  split
  · rw [← Int.add_emod_right, Int.emod_eq_of_lt (by omega) (by omega)]
  · rw [Int.emod_eq_of_lt (by omega) h2]

theorem C42 (n m : Int) (_hn : -9223372036854775808 ≤ n ∧ n ≤ 9223372036854775807) (hm : 0 < m ∧ m ≤ 9223372036854775807) : Pure (PCalls Try.prog GG) 42 [.d (.int .i64 n), .d (.int .i64 m)] (.d (.int .i64 (n % m))) := by
  have he := emod_of (n := n) hm.1
  have h2 := Int.tmod_lt_of_pos n hm.1
  have h3 : -m < n.tmod m := by
    have := Int.tmod_lt_of_pos (-n) hm.1
    rw [Int.neg_tmod] at this
    omega
  intro st; refine pcalls_of k42 e42 (of_decide_eq_true rfl) ?_; dsimp only [c42]; refine pstartL ?_; intro t hL; generalize hQ : pfin _ _ = Q
  refine gor hL ?_; (repeat (clear hL; intro t hL; refine gor hL ?_))
  refine po_rem rfl rfl (by omega) ?_
  refine gor hL ?_; (repeat (clear hL; intro t hL; refine gor hL ?_))
  refine pjoin (fun s u => s = put (fun _ => .undef) (some 5) (.d (.int .i64 (n % m))) ∧ u = t) ?_ ?_
  · refine gor hL ?_; (repeat (clear hL; intro t hL; refine gor hL ?_))
    refine pcond_b rfl (fun h => ?_) (fun h => ?_)
    · have h' : n.tmod m < 0 := by simpa using h
      rw [if_pos h'] at he
      refine gor hL ?_; (repeat (clear hL; intro t hL; refine gor hL ?_))
      refine gnm ?_; rw [IntWalk.i64_in (n.tmod m + m) (by omega), he]
      refine gor hL ?_; (repeat (clear hL; intro t hL; refine gor hL ?_))
      exact ⟨tr2, trivial⟩
    · have h' : ¬ n.tmod m < 0 := by simpa using h
      rw [if_neg h'] at he
      refine gnm ?_; rw [he]
      refine gor hL ?_; (repeat (clear hL; intro t hL; refine gor hL ?_))
      exact ⟨tr2, trivial⟩
  · rintro s u ⟨rfl, rfl⟩
    refine gor hL ?_; (repeat (clear hL; intro t hL; refine gor hL ?_))
    rw [← hQ]
    exact pfin_pure rfl hL.le

def capN (pl pa : Nat) : AV := .d (.fn 40 [] [.ptr pl 0, .ptr pa 0])
theorem nextC (l : List Int) (hl : l.length < 2 ^ 40) (at_ : Nat) (ha : at_ < 2 ^ 61) (pl pa : Nat) (hne : pl ≠ pa) :
    CL (PCalls Try.prog GG) 40 [ptrAt pl, ptrAt pa] [.box pl [.d (i64s l)], .box pa [i64 at_]] (fun _ : Unit => .d (.int .i64 (nextN l at_))) (fun _ => [.box pl [.d (i64s l)], .box pa [i64 (nextA l at_)]]) := by
  refine ⟨?_, ?_⟩
  · intro N
    refine ⟨(), fun x hx => ?_, ?_⟩
    · simp only [List.mem_cons, List.not_mem_nil, or_false] at hx
      rcases hx with rfl | rfl
      · exact .inl ⟨_, List.mem_cons_self, _, rfl⟩
      · exact .inl ⟨_, List.mem_cons_of_mem _ List.mem_cons_self, _, rfl⟩
    · simp [Item.blk, Ne.symm hne]
  intro st t hL; refine pcalls_of k40 e40 (of_decide_eq_true rfl) ?_; dsimp only [c40]; generalize hQ : pfin _ _ = Q
  refine gor hL ?_; (repeat (clear hL; intro t hL; refine gor hL ?_))
  refine pcond_b rfl (fun h => ?_) (fun h => ?_)
  · have h' : l.length = 0 := by simpa using h
    refine gor hL ?_; (repeat (clear hL; intro t hL; refine gor hL ?_))
    rw [← hQ]
    have e1 : nextN l at_ = 0 := by rw [nextN, if_pos h']
    have e2 : nextA l at_ = at_ := by rw [nextA, if_pos h']
    rw [e1, e2]
    exact pfinK () rfl (.inl rfl) hL
  have h' : l.length ≠ 0 := by simpa using h
  have hlt : at_ % l.length < l.length := Nat.mod_lt _ (by omega)
  have hy : l[at_ % l.length]? = some (nextN l at_) := by
    rw [nextN, if_neg h', List.getD_eq_getElem?_getD, List.getElem?_eq_getElem hlt]; rfl
  have e2 : nextA l at_ = at_ + 1 := by rw [nextA, if_neg h']
  refine gor hL ?_; (repeat (clear hL; intro t hL; refine gor hL ?_))
  refine gnm ?_; rw [IntWalk.i64_in ((at_ : Int) + 1) (by omega), show ((at_ : Int) + 1 - 1) = at_ by omega, IntWalk.i64_in (at_ : Int) (by omega)]
  rw [IntWalk.i64_in ((at_ : Int) + 1) (by omega)] at hL
  refine po_remN rfl rfl h' ?_
  refine gor hL ?_; (repeat (clear hL; intro t hL; refine gor hL ?_))
  rw [← hQ]
  rw [e2]
  exact pfinK () rfl (.inl rfl) hL
end Go.Pv
namespace Go.Pv
open Go.Proofs
set_option maxRecDepth 100000
set_option maxHeartbeats 8000000

/-- prompter/value.Build$2 -/
abbrev c41_3 : PCode :=
 (.seq (.region [⟨(.some 20), (.bld [(.d (.int .i64 0)), (.d (.flt .f64 0)), (.d (.str (bs []))), (.full [])] []), .none⟩,
   ⟨.none, (.store 4 (.t 7) (.t 20)), .none⟩])
 .ret)
abbrev c41_2 : PCode :=
 (.cond (.t 19)
  c41_3
  .skip)
abbrev c41_1 : PCode :=
 (.keep [1, 2, 3, 4, 5, 7] (.seq (.region [⟨(.some 18), (.mov (.t 1)), .none⟩,
   ⟨(.some 19), (.bin .lss (.t 18) (.c (.d (.int .i64 1)))), .none⟩])
 c41_2))
abbrev c41_7 : PCode :=
 (.seq (.region [⟨(.some 25), (.load .false 1 (.t 3) .false), .none⟩,
   ⟨(.some 26), (.callv0 (.t 25) []), .none⟩,
   ⟨(.some 27), (.call0 42 [(.t 26), (.c (.d (.int .i64 2)))]), .none⟩,
   ⟨(.some 28), (.bld [(.d (.int .i64 0)), (.d (.flt .f64 0)), (.d (.str (bs []))), (.full [])] [(0, (1, (.t 27)))]), .none⟩,
   ⟨.none, (.store 4 (.t 7) (.t 28)), .none⟩])
 .ret)
abbrev c41_10 : PCode :=
 (.seq (.region [⟨(.some 31), (.load .false 1 (.t 3) .false), .none⟩,
   ⟨(.some 32), (.callv0 (.t 31) []), .none⟩,
   ⟨(.some 33), (.call0 42 [(.t 32), (.c (.d (.int .i64 65536)))]), .none⟩,
   ⟨(.some 34), (.bld [(.d (.int .i64 0)), (.d (.flt .f64 0)), (.d (.str (bs []))), (.full [])] [(0, (1, (.t 33)))]), .none⟩,
   ⟨.none, (.store 4 (.t 7) (.t 34)), .none⟩])
 .ret)
abbrev c41_13 : PCode :=
 (.seq (.region [⟨(.some 37), (.load .false 1 (.t 3) .false), .none⟩,
   ⟨(.some 38), (.callv0 (.t 37) []), .none⟩,
   ⟨(.some 39), (.cvt .i32 (.t 38)), .none⟩,
   ⟨(.some 40), (.cvt .i64 (.t 39)), .none⟩,
   ⟨(.some 41), (.bld [(.d (.int .i64 0)), (.d (.flt .f64 0)), (.d (.str (bs []))), (.full [])] [(0, (1, (.t 40)))]), .none⟩,
   ⟨.none, (.store 4 (.t 7) (.t 41)), .none⟩])
 .ret)
abbrev c41_16 : PCode :=
 (.seq (.region [⟨(.some 44), (.load .false 1 (.t 3) .false), .none⟩,
   ⟨(.some 45), (.callv0 (.t 44) []), .none⟩,
   ⟨(.some 46), (.cvtF .f64 (.t 45)), .none⟩,
   ⟨(.some 47), (.bld [(.d (.int .i64 0)), (.d (.flt .f64 0)), (.d (.str (bs []))), (.full [])] [(1, (1, (.t 46)))]), .none⟩,
   ⟨.none, (.store 4 (.t 7) (.t 47)), .none⟩])
 .ret)
abbrev c41_24 : PCode :=
 (.region [⟨(.some 66), (.mov (.t 9)), .none⟩,
   ⟨(.some 67), (.mov (.t 10)), .none⟩,
   ⟨(.some 68), (.mov (.t 10)), .none⟩,
   ⟨(.some 69), (.bin .rem (.t 68) (.c (.d (.int .i64 26)))), .none⟩,
   ⟨(.some 70), (.bin .add (.c (.d (.int .i64 97))) (.t 69)), .none⟩,
   ⟨(.some 71), (.cvt .u8 (.t 70)), .none⟩,
   ⟨(.some 72), (.iaddr 1 (.t 66) (.t 67)), .none⟩,
   ⟨.none, (.store 1 (.t 72) (.t 71)), .none⟩])
abbrev c41_23 : PCode :=
 (.block 2 (.seq (.region [⟨(.some 65), (.mov (.t 63)), .none⟩,
   ⟨(.some 10), (.mov (.t 65)), .none⟩])
 c41_24))
abbrev c41_22 : PCode :=
 (.keep [7, 9, 62, 63] (.block 1 (.loop (.some [63, 7, 9, 62]) (.seq (.region [⟨(.some 64), (.bin .lss (.t 63) (.t 62)), .none⟩])
 (.seq (.cond (.t 64)
  .skip
  (.exit 1))
 (.seq c41_23
 (.region [⟨(.some 73), (.bin .add (.t 63) (.c (.d (.int .i64 1)))), .none⟩,
   ⟨(.some 63), (.mov (.t 73)), .none⟩])))))))
abbrev c41_25 : PCode :=
 (.keep [7, 9] <|.seq (.region [⟨(.some 74), (.mov (.t 9)), .none⟩,
   ⟨(.some 75), (.strOf (.t 74)), .none⟩,
   ⟨(.some 76), (.bld [(.d (.int .i64 0)), (.d (.flt .f64 0)), (.d (.str (bs []))), (.full [])] [(2, (1, (.t 75)))]), .none⟩,
   ⟨.none, (.store 4 (.t 7) (.t 76)), .none⟩])
 .ret)
abbrev c41_21 : PCode :=
 (.keep [7, 9] (.seq (.seq (.region [⟨(.some 61), (.mov (.t 9)), .none⟩,
   ⟨(.some 62), (.len (.t 61)), .none⟩,
   ⟨(.some 63), (.mov (.c (.d (.int .i64 0)))), .none⟩])
 c41_22)
 c41_25))
abbrev c41_20 : PCode :=
 (.keep [7, 8] (.seq (.region [⟨(.some 58), (.mov (.t 8)), .none⟩,
   ⟨(.some 59), (.minmax .false (.t 58) [(.c (.d (.int .i64 60)))]), .none⟩,
   ⟨(.some 60), (.make 1 1 [(.d (.int .u8 0))] (.t 59) (.t 59)), .none⟩,
   ⟨(.some 9), (.mov (.t 60)), .none⟩])
 c41_21))
abbrev c41_19 : PCode :=
 (.seq (.region [⟨(.some 50), (.load .false 1 (.t 3) .true), .none⟩,
   ⟨(.some 51), (.callv (.t 50) []), .none⟩,
   ⟨(.some 52), (.faddr 1 (.t 5)), .none⟩,
   ⟨(.some 53), (.load .false 1 (.t 52) .true), .none⟩,
   ⟨(.some 54), (.minmax .true (.t 53) [(.c (.d (.int .i64 0)))]), .none⟩,
   ⟨(.some 55), (.minmax .false (.t 54) [(.c (.d (.int .i64 9223372036854775806)))]), .none⟩,
   ⟨(.some 56), (.bin .add (.t 55) (.c (.d (.int .i64 1)))), .none⟩,
   ⟨(.some 57), (.call 42 [(.t 51), (.t 56)]), .none⟩,
   ⟨(.some 8), (.mov (.t 57)), .none⟩])
 c41_20)
abbrev c41_28 : PCode :=
 (.seq (.region [⟨(.some 79), (.load .false 1 (.t 3) .true), .none⟩,
   ⟨(.some 80), (.callv (.t 79) []), .none⟩,
   ⟨(.some 81), (.faddr 2 (.t 5)), .none⟩,
   ⟨(.some 82), (.load .false 1 (.t 81) .true), .none⟩,
   ⟨(.some 83), (.len (.t 82)), .none⟩,
   ⟨(.some 84), (.minmax .true (.t 83) [(.c (.d (.int .i64 1)))]), .none⟩,
   ⟨(.some 85), (.call 42 [(.t 80), (.t 84)]), .none⟩,
   ⟨(.some 86), (.bld [(.d (.int .i64 0)), (.d (.flt .f64 0)), (.d (.str (bs []))), (.full [])] [(0, (1, (.t 85)))]), .none⟩,
   ⟨.none, (.store 4 (.t 7) (.t 86)), .none⟩])
 .ret)
abbrev c41_34 : PCode :=
 (.seq (.region [⟨(.some 91), (.load .true 4 (.t 11) .false), .none⟩,
   ⟨.none, (.store 4 (.t 7) (.t 91)), .none⟩])
 .ret)
abbrev c41_33 : PCode :=
 (.cond (.t 90)
  c41_34
  .skip)
abbrev c41_37 : PCode :=
 (.block 4 (.region [⟨(.some 104), (.faddr 3 (.t 11)), .none⟩,
   ⟨(.some 105), (.load .false 1 (.t 104) .true), .none⟩,
   ⟨(.some 106), (.load .false 1 (.t 4) .true), .none⟩,
   ⟨(.some 107), (.faddr 3 (.t 5)), .none⟩,
   ⟨(.some 108), (.load .false 1 (.t 107) .true), .none⟩,
   ⟨(.some 109), (.iaddr 4 (.t 108) (.c (.d (.int .i64 0)))), .none⟩,
   ⟨(.some 110), (.load .true 4 (.t 109) .true), .none⟩,
   ⟨(.some 111), (.mov (.t 1)), .none⟩,
   ⟨(.some 112), (.bin .sub (.t 111) (.c (.d (.int .i64 1)))), .none⟩,
   ⟨(.some 113), (.callv (.t 106) [(.t 110), (.t 112)]), .none⟩,
   ⟨(.some 114), (.bsl 4 [(.t 113)]), .none⟩,
   ⟨(.some 115), (.app 4 56 (.t 105) (.t 114)), .none⟩,
   ⟨(.some 116), (.faddr 3 (.t 11)), .none⟩,
   ⟨.none, (.storeo 1 (.t 116) (.t 115)), .none⟩]))
abbrev c41_36 : PCode :=
 (.keep [1, 4, 5, 7, 11, 101, 102] (.block 3 (.loop (.some [102, 1, 4, 5, 7, 11, 101]) (.seq (.region [⟨(.some 103), (.bin .lss (.t 102) (.t 101)), .none⟩])
 (.seq (.cond (.t 103)
  .skip
  (.exit 3))
 (.seq c41_37
 (.region [⟨(.some 117), (.bin .add (.t 102) (.c (.d (.int .i64 1)))), .none⟩,
   ⟨(.some 102), (.mov (.t 117)), .none⟩])))))))
abbrev c41_38 : PCode :=
 (.seq (.region [⟨(.some 118), (.load .true 4 (.t 11) .false), .none⟩,
   ⟨.none, (.store 4 (.t 7) (.t 118)), .none⟩])
 .ret)
abbrev c41_35 : PCode :=
 (.keep [1, 3, 4, 5, 7, 11] (.seq (.seq (.region [⟨(.some 92), (.load .false 1 (.t 3) .true), .none⟩,
   ⟨(.some 93), (.callv (.t 92) []), .none⟩,
   ⟨(.some 94), (.call 42 [(.t 93), (.c (.d (.int .i64 4)))]), .none⟩,
   ⟨(.some 95), (.faddr 1 (.t 5)), .none⟩,
   ⟨(.some 96), (.load .false 1 (.t 95) .true), .none⟩,
   ⟨(.some 97), (.faddr 3 (.t 5)), .none⟩,
   ⟨(.some 98), (.load .false 1 (.t 97) .true), .none⟩,
   ⟨(.some 99), (.len (.t 98)), .none⟩,
   ⟨(.some 100), (.bin .mul (.c (.d (.int .i64 4))) (.t 99)), .none⟩,
   ⟨(.some 101), (.minmax .false (.t 94) [(.t 96), (.t 100)]), .none⟩,
   ⟨(.some 102), (.mov (.c (.d (.int .i64 0)))), .none⟩])
 c41_36)
 c41_38))
abbrev c41_32 : PCode :=
 (.seq (.seq (.region [⟨(.some 89), (.load .false 1 (.t 2) .false), .none⟩,
   ⟨(.some 90), (.bin .gtr (.t 89) (.c (.d (.int .i64 100)))), .none⟩])
 c41_33)
 c41_35)
abbrev c41_31 : PCode :=
 (.seq (.region [⟨(.some 11), (.alloc [(.d (.int .i64 0)), (.d (.flt .f64 0)), (.d (.str (bs []))), (.full [])]), .none⟩])
 c41_32)
abbrev c41_45 : PCode :=
 (.region [⟨(.some 128), (.faddr 3 (.t 12)), .none⟩,
   ⟨(.some 129), (.load .false 1 (.t 128) .true), .none⟩,
   ⟨(.some 130), (.load .false 1 (.t 4) .true), .none⟩,
   ⟨(.some 131), (.load .true 4 (.t 14) .true), .none⟩,
   ⟨(.some 132), (.mov (.t 1)), .none⟩,
   ⟨(.some 133), (.bin .sub (.t 132) (.c (.d (.int .i64 1)))), .none⟩,
   ⟨(.some 134), (.callv (.t 130) [(.t 131), (.t 133)]), .none⟩,
   ⟨(.some 135), (.bsl 4 [(.t 134)]), .none⟩,
   ⟨(.some 136), (.app 4 56 (.t 129) (.t 135)), .none⟩,
   ⟨(.some 137), (.faddr 3 (.t 12)), .none⟩,
   ⟨.none, (.storeo 1 (.t 137) (.t 136)), .none⟩])
abbrev c41_44 : PCode :=
 (.block 6 (.seq (.region [⟨(.some 126), (.iaddr 4 (.t 122) (.t 124)), .none⟩,
   ⟨(.some 127), (.load .true 4 (.t 126) .false), .none⟩,
   ⟨(.some 14), (.alloc [(.d (.int .u8 0)), (.d (.int .i64 0)), (.full []), (.full [])]), .none⟩,
   ⟨.none, (.store 4 (.t 14) (.t 127)), .none⟩])
 c41_45))
abbrev c41_43 : PCode :=
 (.keep [1, 4, 7, 12, 122, 123, 124] (.block 5 (.loop (.some [124, 1, 4, 7, 12, 122, 123]) (.seq (.region [⟨(.some 125), (.bin .lss (.t 124) (.t 123)), .none⟩])
 (.seq (.cond (.t 125)
  .skip
  (.exit 5))
 (.seq c41_44
 (.region [⟨(.some 138), (.bin .add (.t 124) (.c (.d (.int .i64 1)))), .none⟩,
   ⟨(.some 124), (.mov (.t 138)), .none⟩])))))))
abbrev c41_46 : PCode :=
 (.seq (.region [⟨(.some 139), (.load .true 4 (.t 12) .false), .none⟩,
   ⟨.none, (.store 4 (.t 7) (.t 139)), .none⟩])
 .ret)
abbrev c41_42 : PCode :=
 (.seq (.seq (.region [⟨(.some 121), (.faddr 3 (.t 5)), .none⟩,
   ⟨(.some 122), (.load .false 1 (.t 121) .false), .none⟩,
   ⟨(.some 123), (.len (.t 122)), .none⟩,
   ⟨(.some 124), (.mov (.c (.d (.int .i64 0)))), .none⟩])
 c41_43)
 c41_46)
abbrev c41_41 : PCode :=
 (.seq (.region [⟨(.some 12), (.alloc [(.d (.int .i64 0)), (.d (.flt .f64 0)), (.d (.str (bs []))), (.full [])]), .none⟩])
 c41_42)
abbrev c41_51 : PCode :=
 (.seq (.region [⟨(.some 146), (.bld [(.d (.int .i64 0)), (.d (.flt .f64 0)), (.d (.str (bs []))), (.full [])] []), .none⟩,
   ⟨.none, (.store 4 (.t 7) (.t 146)), .none⟩])
 .ret)
abbrev c41_50 : PCode :=
 (.cond (.t 145)
  c41_51
  .skip)
abbrev c41_53 : PCode :=
 (.keep [1, 4, 5, 7, 15] (.seq (.region [⟨(.some 153), (.mov (.t 15)), .none⟩,
   ⟨(.some 154), (.load .false 1 (.t 4) .true), .none⟩,
   ⟨(.some 155), (.faddr 3 (.t 5)), .none⟩,
   ⟨(.some 156), (.load .false 1 (.t 155) .true), .none⟩,
   ⟨(.some 157), (.mov (.t 15)), .none⟩,
   ⟨(.some 158), (.iaddr 4 (.t 156) (.t 157)), .none⟩,
   ⟨(.some 159), (.load .true 4 (.t 158) .true), .none⟩,
   ⟨(.some 160), (.mov (.t 1)), .none⟩,
   ⟨(.some 161), (.bin .sub (.t 160) (.c (.d (.int .i64 1)))), .none⟩,
   ⟨(.some 162), (.callv (.t 154) [(.t 159), (.t 161)]), .none⟩,
   ⟨(.some 163), (.bsl 4 [(.t 162)]), .none⟩,
   ⟨(.some 164), (.bld [(.d (.int .i64 0)), (.d (.flt .f64 0)), (.d (.str (bs []))), (.full [])] [(0, (1, (.t 153))), (3, (1, (.t 163)))]), .none⟩,
   ⟨.none, (.store 4 (.t 7) (.t 164)), .none⟩])
 .ret))
abbrev c41_52 : PCode :=
 (.keep [1, 3, 4, 5, 7] (.seq (.region [⟨(.some 147), (.load .false 1 (.t 3) .true), .none⟩,
   ⟨(.some 148), (.callv (.t 147) []), .none⟩,
   ⟨(.some 149), (.faddr 3 (.t 5)), .none⟩,
   ⟨(.some 150), (.load .false 1 (.t 149) .true), .none⟩,
   ⟨(.some 151), (.len (.t 150)), .none⟩,
   ⟨(.some 152), (.call 42 [(.t 148), (.t 151)]), .none⟩,
   ⟨(.some 15), (.mov (.t 152)), .none⟩])
 c41_53))
abbrev c41_49 : PCode :=
 (.seq (.seq (.region [⟨(.some 142), (.faddr 3 (.t 5)), .none⟩,
   ⟨(.some 143), (.load .false 1 (.t 142) .false), .none⟩,
   ⟨(.some 144), (.len (.t 143)), .none⟩,
   ⟨(.some 145), (.bin .eql (.t 144) (.c (.d (.int .i64 0)))), .none⟩])
 c41_50)
 c41_52)
abbrev c41_48 : PCode :=
 (.cond (.t 140)
  c41_49
  .skip)
abbrev c41_47 : PCode :=
 (.seq (.region [⟨(.some 141), (.bin .eql (.t 22) (.c (.d (.int .u8 8)))), .none⟩,
   ⟨(.some 140), (.mov (.t 141)), .none⟩])
 c41_48)
abbrev c41_40 : PCode :=
 (.cond (.t 119)
  c41_41
  c41_47)
abbrev c41_39 : PCode :=
 (.seq (.region [⟨(.some 120), (.bin .eql (.t 22) (.c (.d (.int .u8 6)))), .none⟩,
   ⟨(.some 119), (.mov (.t 120)), .none⟩])
 c41_40)
abbrev c41_30 : PCode :=
 (.cond (.t 87)
  c41_31
  c41_39)
abbrev c41_29 : PCode :=
 (.seq (.region [⟨(.some 88), (.bin .eql (.t 22) (.c (.d (.int .u8 5)))), .none⟩,
   ⟨(.some 87), (.mov (.t 88)), .none⟩])
 c41_30)
abbrev c41_27 : PCode :=
 (.cond (.t 77)
  c41_28
  c41_29)
abbrev c41_26 : PCode :=
 (.seq (.region [⟨(.some 78), (.bin .eql (.t 22) (.c (.d (.int .u8 7)))), .none⟩,
   ⟨(.some 77), (.mov (.t 78)), .none⟩])
 c41_27)
abbrev c41_18 : PCode :=
 (.cond (.t 48)
  c41_19
  c41_26)
abbrev c41_17 : PCode :=
 (.seq (.region [⟨(.some 49), (.bin .eql (.t 22) (.c (.d (.int .u8 4)))), .none⟩,
   ⟨(.some 48), (.mov (.t 49)), .none⟩])
 c41_18)
abbrev c41_15 : PCode :=
 (.cond (.t 42)
  c41_16
  c41_17)
abbrev c41_14 : PCode :=
 (.seq (.region [⟨(.some 43), (.bin .eql (.t 22) (.c (.d (.int .u8 3)))), .none⟩,
   ⟨(.some 42), (.mov (.t 43)), .none⟩])
 c41_15)
abbrev c41_12 : PCode :=
 (.cond (.t 35)
  c41_13
  c41_14)
abbrev c41_11 : PCode :=
 (.seq (.region [⟨(.some 36), (.bin .eql (.t 22) (.c (.d (.int .u8 2)))), .none⟩,
   ⟨(.some 35), (.mov (.t 36)), .none⟩])
 c41_12)
abbrev c41_9 : PCode :=
 (.cond (.t 29)
  c41_10
  c41_11)
abbrev c41_8 : PCode :=
 (.seq (.region [⟨(.some 30), (.bin .eql (.t 22) (.c (.d (.int .u8 1)))), .none⟩,
   ⟨(.some 29), (.mov (.t 30)), .none⟩])
 c41_9)
abbrev c41_6 : PCode :=
 (.cond (.t 23)
  c41_7
  c41_8)
abbrev c41_5 : PCode :=
 (.block 0 (.seq (.region [⟨(.some 24), (.bin .eql (.t 22) (.c (.d (.int .u8 0)))), .none⟩,
   ⟨(.some 23), (.mov (.t 24)), .none⟩])
 c41_6))
abbrev c41_54 : PCode :=
 (.seq (.region [⟨(.some 165), (.bld [(.d (.int .i64 0)), (.d (.flt .f64 0)), (.d (.str (bs []))), (.full [])] []), .none⟩,
   ⟨.none, (.store 4 (.t 7) (.t 165)), .none⟩])
 .ret)
abbrev c41_4 : PCode :=
 (.seq (.seq (.region [⟨(.some 21), (.faddr 0 (.t 5)), .none⟩,
   ⟨(.some 22), (.load .false 1 (.t 21) .false), .none⟩])
 c41_5)
 c41_54)
abbrev c41_0 : PCode :=
 (.seq (.seq (.region [⟨(.some 16), (.load .false 1 (.t 2) .false), .none⟩,
   ⟨(.some 17), (.bin .add (.t 16) (.c (.d (.int .i64 1)))), .none⟩,
   ⟨.none, (.store 1 (.t 2) (.t 17)), .none⟩])
 c41_1)
 c41_4)
def c41 : PFun := ⟨
 (.seq (.region [⟨(.some 5), (.box 4 (.t 0)), .none⟩,
   ⟨(.some 7), (.alloc [(.d (.int .i64 0)), (.d (.flt .f64 0)), (.d (.str (bs []))), (.full [])]), .none⟩])
 c41_0),
 5, 166, [(.cell 7 .true 4)]⟩

theorem e41 : entered Try.prog 41 = true := by kernel_rfl
theorem k41 : compFun Try.prog (fun i => if i = 14 then 2 else if i = 23 then 2 else if i = 28 then 2 else if i = 30 then 6 else if i = 38 then 6 else if i = 44 then 2 else if i = 45 then 2 else 0) 41 = some c41.er := by kernel_rfl


def ltr (i : Nat) : Int := ((97 + i % 26 : Nat) : Int)
theorem flat_rep (n : Nat) (z : AV) : (List.replicate n [z]).flatten = List.replicate n z := by
  induction n with
  | zero => rfl
  | succ n ih => rw [List.replicate_succ, List.flatten_cons, ih]; rfl
theorem letters_row : ∀ l : List Nat, strOfRows (l.map fun i => [Dat.int .u8 (ltr i)]) = some (l.map fun i => UInt8.ofNat (97 + i % 26))
  | [] => rfl
  | i :: l => by
    simp only [List.map_cons, strOfRows, letters_row l, Option.map_some]
    simp only [ltr, Int.toNat_natCast]
theorem ltr_store (n k : Nat) (hk : k < n) : (((List.range k).map fun i => AV.d (.int .u8 (ltr i))) ++ List.replicate (n - k) (AV.d (.int .u8 0))).take k ++ [AV.d (.int .u8 (ltr k))] ++ (((List.range k).map fun i => AV.d (.int .u8 (ltr i))) ++ List.replicate (n - k) (AV.d (.int .u8 0))).drop (k + 1) =
    ((List.range (k + 1)).map fun i => AV.d (.int .u8 (ltr i))) ++ List.replicate (n - (k + 1)) (AV.d (.int .u8 0)) := by
  have hl : ((List.range k).map fun i => AV.d (.int .u8 (ltr i))).length = k := by simp
  rw [List.take_append_of_le_length (by omega), List.take_of_length_le (by omega), List.drop_append, hl, List.drop_eq_nil_of_le (by omega), List.nil_append, List.drop_replicate, List.range_succ, List.map_append]
  congr 2
  omega
theorem ltr_cells : ∀ l : List Nat, (l.map fun i => AV.d (.int .u8 (ltr i))).map AV.weak1 = (l.map fun i => [Dat.int .u8 (ltr i)]).flatten.map AV.d ++ []
  | [] => rfl
  | i :: l => by
    have := ltr_cells l
    simp only [List.append_nil] at this ⊢
    rw [List.map_cons, List.map_cons, this]; rfl
theorem iaddr_bslN {G : Glob} {s : Slots} {a x : Arg} {b n cap k : Nat} (ha : a.ev G s = .bsl b 0 n cap) (hx : x.ev G s = i64 k) (hn : k < n) : ev G s (.iaddr 1 a x) = some (.d (.ptr b k)) := by
  simp only [ev, ha, hx, i64]
  rw [if_pos (by omega)]
  simp
def capB (pm pn pb : Nat) : AV := .d (.fn 41 [] [.ptr pm 0, .ptr pn 0, .ptr pb 0])
def bF (l : List Int) (pm pa pl pn pb m a : Nat) : List Item := [.box pm [i64 m], .box pa [i64 a], .box pl [.d (i64s l)], .box pn [capN pl pa], .box pb [capB pm pn pb]]
theorem bF_sat (l : List Int) {pm pa pl pn pb : Nat} (hnd : [pm, pa, pl, pn, pb].Nodup) (m a m' a' : Nat) : Sat (bF l pm pa pl pn pb m a) (fun _ : Unit => bF l pm pa pl pn pb m' a') := by
  intro N
  refine ⟨(), fun x hx => ?_, ?_⟩
  · simp only [bF, List.mem_cons, List.not_mem_nil, or_false] at hx
    rcases hx with rfl | rfl | rfl | rfl | rfl
    · exact .inl ⟨_, .head _, _, rfl⟩
    · exact .inl ⟨_, .tail _ (.head _), _, rfl⟩
    · exact .inl ⟨_, .tail _ (.tail _ (.head _)), _, rfl⟩
    · exact .inl ⟨_, .tail _ (.tail _ (.tail _ (.head _))), _, rfl⟩
    · exact .inl ⟨_, .tail _ (.tail _ (.tail _ (.tail _ (.head _)))), _, rfl⟩
  · simp only [List.nodup_cons, List.mem_cons, List.not_mem_nil, or_false, not_or] at hnd
    simp only [bF, List.pairwise_cons, List.mem_cons, List.not_mem_nil, or_false, Item.blk]
    simp
    omega

theorem buildC (l : List Int) (hl : l.length < 2 ^ 40) (hr : ∀ x ∈ l, -9223372036854775808 ≤ x ∧ x ≤ 9223372036854775807) : ∀ (d : Nat) (t : KT) (a m : Nat), d ≤ 20 → t.fit → posd d t → a ≤ m → m + cost d t < 2 ^ 60 → ∀ {pm pa pl pn pb : Nat}, [pm, pa, pl, pn, pb].Nodup →
    CL (PCalls Try.prog GG) 41 [t.av, i64 d, ptrAt pm, ptrAt pn, ptrAt pb] (bF l pm pa pl pn pb m a) (fun _ : Unit => (buildM l d t a m).v.av) (fun _ => bF l pm pa pl pn pb (buildM l d t a m).made (buildM l d t a m).at_) := by
  have hnx : ∀ a, -9223372036854775808 ≤ nextN l a ∧ nextN l a ≤ 9223372036854775807 := fun a => by
    unfold nextN
    split
    · decide
    · rename_i h
      rw [List.getD_eq_getElem?_getD, List.getElem?_eq_getElem (Nat.mod_lt _ (by omega))]
      exact hr _ (List.getElem_mem _)
  intro d
  induction d with
  | zero =>
    intro x a m hd hx hp ham hcost pm pa pl pn pb hnd
    refine ⟨bF_sat l hnd _ _ _ _, ?_⟩
    simp only [bF, capN, capB, cost, buildM] at hcost ⊢
    rw [KT.av_eq]
    intro st t hL; refine pcalls_of k41 e41 (of_decide_eq_true rfl) ?_; dsimp only [c41]; generalize hQ : pfin _ _ = Q
    (refine gor hL ?_; (repeat (clear hL; intro t hL; refine gor hL ?_))); refine po_boxA hL ?_; clear hL; intro p5 t hL
    (refine gor hL ?_; (repeat (clear hL; intro t hL; refine gor hL ?_))); (with_reducible refine po_allocL hL rfl ?_); clear hL; intro p7 t hL
    refine gor hL ?_; (repeat (clear hL; intro t hL; refine gor hL ?_))
    rw [IntWalk.i64_in ((m : Int) + 1) (by omega)] at hL
    rw [← hQ]
    exact pfinK () (pret_one (pres_cellL hL rfl Rem.head rfl)) (.inr rfl) hL
  | succ d ih =>
  intro x a m hd hx hp ham hcost pm pa pl pn pb hnd
  refine ⟨bF_sat l hnd _ _ _ _, ?_⟩
  have hne : pl ≠ pa := by
    simp only [List.nodup_cons, List.mem_cons, not_or] at hnd
    omega
  rw [KT.fit_eq] at hx
  simp only [bF, capN, capB] at ih ⊢
  rw [KT.av_eq]
  intro st t hL; refine pcalls_of k41 e41 (of_decide_eq_true rfl) ?_; dsimp only [c41]; generalize hQ : pfin _ _ = Q
  (refine gor hL ?_; (repeat (clear hL; intro t hL; refine gor hL ?_))); refine po_boxA hL ?_; clear hL; intro p5 t hL
  (refine gor hL ?_; (repeat (clear hL; intro t hL; refine gor hL ?_))); (with_reducible refine po_allocL hL rfl ?_); clear hL; intro p7 t hL
  refine gor hL ?_; (repeat (clear hL; intro t hL; refine gor hL ?_))
  rw [IntWalk.i64_in ((m : Int) + 1) (by omega)] at hL
  refine pcond_b rfl (fun hdp => ?_) (fun hdp => ?_)
  · simp at hdp; omega
  refine gor hL ?_; (repeat (clear hL; intro t hL; refine gor hL ?_))
  have hkd := x.kind
  have hset : ∀ {b : Made}, buildM l (d + 1) x a m = b → (pfin [PRes.cell 7 true 4] fun r t' => ∃ a_1 : Unit, r = b.v.av ∧ Lay st (bF l pm pa pl pn pb b.made b.at_) t') = Q := fun h => by rw [← hQ, h]; rfl
  clear hQ
  refine pcond_b rfl (fun h0 => ?_) (fun h0 => ?_)
  · have h0' : x.kind = 0 := by simpa using h0
    have hQ := hset (show buildM l (d + 1) x a m = ⟨VT.num (nextN l a % 2), nextA l a, m + 1⟩ by rw [buildM, if_pos h0'])
    simp only [bF, capN, capB] at hQ
    refine gor hL ?_; (repeat (clear hL; intro t hL; refine gor hL ?_))
    refine po_callvK hL (nextC l hl a (by omega) pl pa hne) ?_
    clear hL; intro _ t hL
    refine gor hL ?_; (repeat (clear hL; intro t hL; refine gor hL ?_))
    refine po_c0 (C42 (nextN l a) 2 (hnx a) (by decide)) ?_
    refine gor hL ?_; (repeat (clear hL; intro t hL; refine gor hL ?_))
    rw [← hQ]
    exact pfinK () (pret_one (pres_cellL hL rfl Rem.head rfl)) (.inr rfl) hL
  have h0n : x.kind ≠ 0 := by simpa using h0
  refine gor hL ?_; (repeat (clear hL; intro t hL; refine gor hL ?_))
  refine pcond_b rfl (fun h1 => ?_) (fun h1 => ?_)
  · have h1' : x.kind = 1 := by simpa using h1
    have hQ := hset (show buildM l (d + 1) x a m = ⟨VT.num (nextN l a % 65536), nextA l a, m + 1⟩ by rw [buildM, if_neg h0n, if_pos h1'])
    simp only [bF, capN, capB] at hQ
    refine gor hL ?_; (repeat (clear hL; intro t hL; refine gor hL ?_))
    refine po_callvK hL (nextC l hl a (by omega) pl pa hne) ?_
    clear hL; intro _ t hL
    refine gor hL ?_; (repeat (clear hL; intro t hL; refine gor hL ?_))
    refine po_c0 (C42 (nextN l a) 65536 (hnx a) (by decide)) ?_
    refine gor hL ?_; (repeat (clear hL; intro t hL; refine gor hL ?_))
    rw [← hQ]
    exact pfinK () (pret_one (pres_cellL hL rfl Rem.head rfl)) (.inr rfl) hL
  have h1n : x.kind ≠ 1 := by simpa using h1
  refine gor hL ?_; (repeat (clear hL; intro t hL; refine gor hL ?_))
  refine pcond_b rfl (fun h2 => ?_) (fun h2 => ?_)
  · have h2' : x.kind = 2 := by simpa using h2
    have hQ := hset (show buildM l (d + 1) x a m = ⟨VT.num (IntKind.i64.wrap (IntKind.i32.wrap (nextN l a))), nextA l a, m + 1⟩ by rw [buildM, if_neg h0n, if_neg h1n, if_pos h2'])
    simp only [bF, capN, capB] at hQ
    refine gor hL ?_; (repeat (clear hL; intro t hL; refine gor hL ?_))
    refine po_callvK hL (nextC l hl a (by omega) pl pa hne) ?_
    clear hL; intro _ t hL
    refine gor hL ?_; (repeat (clear hL; intro t hL; refine gor hL ?_))
    rw [← hQ]
    exact pfinK () (pret_one (pres_cellL hL rfl Rem.head rfl)) (.inr rfl) hL
  have h2n : x.kind ≠ 2 := by simpa using h2
  refine gor hL ?_; (repeat (clear hL; intro t hL; refine gor hL ?_))
  refine pcond_b rfl (fun h3 => ?_) (fun h3 => ?_)
  · have h3' : x.kind = 3 := by simpa using h3
    have hQ := hset (show buildM l (d + 1) x a m = ⟨.mk 0 (FloatKind.f64.nearest (nextN l a)) (bs []) [], nextA l a, m + 1⟩ by rw [buildM, if_neg h0n, if_neg h1n, if_neg h2n, if_pos h3'])
    simp only [bF, capN, capB] at hQ
    refine gor hL ?_; (repeat (clear hL; intro t hL; refine gor hL ?_))
    refine po_callvK hL (nextC l hl a (by omega) pl pa hne) ?_
    clear hL; intro _ t hL
    refine gor hL ?_; (repeat (clear hL; intro t hL; refine gor hL ?_))
    rw [← hQ]
    exact pfinK () (pret_one (pres_cellL hL rfl Rem.head rfl)) (.inr rfl) hL
  have h3n : x.kind ≠ 3 := by simpa using h3
  refine gor hL ?_; (repeat (clear hL; intro t hL; refine gor hL ?_))
  refine pcond_b rfl (fun h4 => ?_) (fun h4 => ?_)
  · have h4' : x.kind = 4 := by simpa using h4
    have hQ := hset (show buildM l (d + 1) x a m = _ by rw [buildM, if_neg h0n, if_neg h1n, if_neg h2n, if_neg h3n, if_pos h4'])
    simp only [bF, capN, capB] at hQ
    have hmo : 0 < min (max x.most 0) 9223372036854775806 + 1 ∧ min (max x.most 0) 9223372036854775806 + 1 ≤ 9223372036854775807 := by omega
    have hmm : (if (9223372036854775806 : Int) < (if (0 : Int) > x.most then 0 else x.most) then (9223372036854775806 : Int) else (if (0 : Int) > x.most then 0 else x.most)) = min (max x.most 0) 9223372036854775806 := by split <;> split <;> omega
    have hwn := C42 (nextN l a) (min (max x.most 0) 9223372036854775806 + 1) (hnx a) hmo
    obtain ⟨n, hn⟩ : ∃ n : Nat, min (nextN l a % (min (max x.most 0) 9223372036854775806 + 1)) 60 = n := ⟨_, (Int.toNat_of_nonneg (by have := Int.emod_nonneg (nextN l a) (show min (max x.most 0) 9223372036854775806 + 1 ≠ 0 by omega); omega)).symm⟩
    have hn60 : n ≤ 60 := by omega
    rw [hn, Int.toNat_natCast] at hQ
    refine gor hL ?_; (repeat (clear hL; intro t hL; refine gor hL ?_))
    refine po_loadSt (H := [.box pn [.d (.fn 40 [] [.ptr pl 0, .ptr pa 0])], .box p5 [.d (.int .u8 x.kind), .d (.int .i64 x.most), .d (.sl (x.names.map fun s => [.str s])), .d (.sl (x.of.map KT.row))]]) (Stb.start _ (fun _ => .undef) t) hL rfl rfl (by repeat (first | exact Rem.head | apply Rem.tail)) (by (repeat (first | (with_reducible exact Pick.nil) | ((with_reducible apply Pick.cons); · (repeat (first | exact Rem.head | apply Rem.tail)))))) rfl (fun hS => ?_)
    refine po_callvSt hS hL rfl rfl rfl (nextC l hl a (by omega) pl pa hne) (by (repeat (first | (with_reducible exact Pick.nil) | ((with_reducible apply Pick.cons); · (repeat (first | exact Rem.head | apply Rem.tail)))))) (by (repeat (first | (with_reducible exact Pick.nil) | ((with_reducible apply Pick.cons); · (repeat (first | exact Rem.head | apply Rem.tail)))))) (fun _ t hL hS => ?_)
    refine gor hL ?_; (repeat (clear hL; intro t hL; refine gor hL ?_))
    refine po_loadSt hS hL rfl rfl (by repeat (first | exact Rem.head | apply Rem.tail)) (by (repeat (first | (with_reducible exact Pick.nil) | ((with_reducible apply Pick.cons); · (repeat (first | exact Rem.head | apply Rem.tail)))))) rfl (fun hS => ?_)
    refine gor hL ?_; (repeat (clear hL; intro t hL; refine gor hL ?_))
    refine gnm ?_
    simp only [if_true, if_false]
    rw [hmm, IntWalk.i64_in (min (max x.most 0) 9223372036854775806 + 1) (by omega)]
    refine po_callPu hS hL rfl rfl hwn (by (repeat (first | (with_reducible exact Pick.nil) | ((with_reducible apply Pick.cons); · (repeat (first | exact Rem.head | apply Rem.tail)))))) (fun hS => ?_)
    refine gor hL ?_; (repeat (clear hL; intro t hL; refine gor hL ?_))
    refine gnm ?_
    simp only [if_false]
    have hmn : (if (60 : Int) < nextN l a % (min (max x.most 0) 9223372036854775806 + 1) then (60 : Int) else nextN l a % (min (max x.most 0) 9223372036854775806 + 1)) = (n : Int) := by rw [← hn]; split <;> omega
    rw [hmn]
    refine po_makeL hL rfl (l := n) (c := n) rfl rfl ⟨Nat.le_refl _, by omega⟩ ?_
    clear hL; intro pq t hL
    rw [flat_rep] at hL
    refine gor hL ?_; (repeat (clear hL; intro t hL; refine gor hL ?_))
    refine pjoinF (fun s u => s = put (put (fun _ => .undef) (some 9) (.d (.sl ((List.range n).map fun i => [Dat.int .u8 (ltr i)])))) (some 7) (ptrAt p7) ∧ Lay st [.box p7 [.d (.int .i64 0), .d (.flt .f64 0), .d (.str (bs [])), .full []], .box pm [.d (.int .i64 ((m : Int) + 1))], .box pa [i64 (nextA l a)], .box pl [.d (i64s l)], .box pn [.d (.fn 40 [] [.ptr pl 0, .ptr pa 0])], .box pb [.d (.fn 41 [] [.ptr pm 0, .ptr pn 0, .ptr pb 0])]] u) ?_ ?_
    · refine gor hL ?_; (repeat (clear hL; intro t hL; refine gor hL ?_))
      (apply prangeJ (n) (by omega) (fun k t => Lay st [.box pq (((List.range k).map fun i => AV.d (.int .u8 (ltr i))) ++ List.replicate (n - k) (AV.d (.int .u8 0))), .box p7 [.d (.int .i64 0), .d (.flt .f64 0), .d (.str (bs [])), .full []], .box pm [.d (.int .i64 ((m : Int) + 1))], .box pa [i64 (nextA l a)], .box pl [.d (i64s l)], .box pn [.d (.fn 40 [] [.ptr pl 0, .ptr pa 0])], .box pb [.d (.fn 41 [] [.ptr pm 0, .ptr pn 0, .ptr pb 0])]] t)); (· exact trimA); (· exact fun _ => rfl)
      · exact hL.pk
      · intro t hL
        rw [Nat.sub_self, List.replicate_zero, List.append_nil] at hL
        have hlr : ((List.range n).map fun i => [Dat.int .u8 (ltr i)]).length = n := by simp
        obtain ⟨t2, hz, hL⟩ := hL.frz (sz := 1) (rows := ((List.range n).map fun i => [Dat.int .u8 (ltr i)])) (rest := []) (fun r hr => by obtain ⟨i, _, rfl⟩ := List.mem_map.1 hr; rfl) (ltr_cells _)
        simp only [List.map_cons, List.map_nil, Item.frz, pvf, i64s] at hL
        refine ⟨_, t2, hz _, ?_, hL.pk⟩
        refine Eq.trans (congrArg (a₂ := put (put (fun _ => .undef) (some 9) (.bsl pq 0 n n)) (some 7) (ptrAt p7)) (fun (f : Slots) => fun i => AV.frz pq ((List.range n).map fun i => [Dat.int .u8 (ltr i)]) (f i)) tr2) ?_
        rw [frz_put, frz_put, show AV.frz pq ((List.range n).map fun i => [Dat.int .u8 (ltr i)]) (.bsl pq 0 n n) = .d (.sl ((List.range n).map fun i => [Dat.int .u8 (ltr i)])) from if_pos ⟨rfl, rfl, hlr.symm⟩]
        rfl
      · intro k hk t hL
        refine pblock ?_
        refine gor hL ?_; (repeat (clear hL; intro t hL; refine gor hL ?_))
        have e1 : IntKind.u8.wrap (IntKind.i64.wrap (97 + (k : Int).tmod 26)) = ltr k := by
          rw [IntWalk.rem_in _ _ (by omega), IntWalk.i64_in _ (by omega), IntWalk.u8_in _ (by omega), ltr]; omega
        refine gnm ?_; rw [e1]
        refine po rfl (iaddr_bslN rfl rfl hk) ?_
        refine po_storeL hL rfl rfl (by repeat (first | exact Rem.head | apply Rem.tail)) rfl ⟨rfl, rfl⟩ (by simp; omega) (ltr_store n k hk) (fun _ _ _ h => False.elim h) (fun t hL => ?_)
        refine gor hL ?_; (repeat (clear hL; intro t hL; refine gor hL ?_))
        exact ⟨hL.pk, tr2⟩
    · rintro s t ⟨rfl, hL⟩
      refine gor hL ?_; (repeat (clear hL; intro t hL; refine gor hL ?_))
      refine po (v := .d (.str (letters n))) rfl (by show Option.map _ (strOfRows ((List.range n).map fun i => [Dat.int .u8 (ltr i)])) = _; rw [letters_row]; rfl) ?_
      refine gor hL ?_; (repeat (clear hL; intro t hL; refine gor hL ?_))
      rw [← hQ]
      exact pfinK () (pret_one (pres_cellL hL rfl Rem.head rfl)) (.inr rfl) hL
  have h4n : x.kind ≠ 4 := by simpa using h4
  refine gor hL ?_; (repeat (clear hL; intro t hL; refine gor hL ?_))
  refine pcond_b rfl (fun h7 => ?_) (fun h7 => ?_)
  · have h7' : x.kind = 7 := by simpa using h7
    have hQ := hset (show buildM l (d + 1) x a m = ⟨VT.num (nextN l a % (max x.names.length 1 : Nat)), nextA l a, m + 1⟩ by rw [buildM, if_neg h0n, if_neg h1n, if_neg h2n, if_neg h3n, if_neg h4n, if_pos h7'])
    simp only [bF, capN, capB] at hQ
    refine gor hL ?_; (repeat (clear hL; intro t hL; refine gor hL ?_))
    refine po_loadSt (H := [.box pn [.d (.fn 40 [] [.ptr pl 0, .ptr pa 0])], .box p5 [.d (.int .u8 x.kind), .d (.int .i64 x.most), .d (.sl (x.names.map fun s => [.str s])), .d (.sl (x.of.map KT.row))]]) (Stb.start _ (fun _ => .undef) t) hL rfl rfl (by repeat (first | exact Rem.head | apply Rem.tail)) (by (repeat (first | (with_reducible exact Pick.nil) | ((with_reducible apply Pick.cons); · (repeat (first | exact Rem.head | apply Rem.tail)))))) rfl (fun hS => ?_)
    refine po_callvSt hS hL rfl rfl rfl (nextC l hl a (by omega) pl pa hne) (by (repeat (first | (with_reducible exact Pick.nil) | ((with_reducible apply Pick.cons); · (repeat (first | exact Rem.head | apply Rem.tail)))))) (by (repeat (first | (with_reducible exact Pick.nil) | ((with_reducible apply Pick.cons); · (repeat (first | exact Rem.head | apply Rem.tail)))))) (fun _ t hL hS => ?_)
    refine gor hL ?_; (repeat (clear hL; intro t hL; refine gor hL ?_))
    refine po_loadSt hS hL rfl rfl (by repeat (first | exact Rem.head | apply Rem.tail)) (by (repeat (first | (with_reducible exact Pick.nil) | ((with_reducible apply Pick.cons); · (repeat (first | exact Rem.head | apply Rem.tail)))))) rfl (fun hS => ?_)
    have hnl : x.names.length < 2 ^ 40 := hx.1.1
    have hmx : (if (1 : Int) > (x.names.length : Int) then 1 else (x.names.length : Int)) = ((max x.names.length 1 : Nat) : Int) := by split <;> omega
    refine gor hL ?_; (repeat (clear hL; intro t hL; refine gor hL ?_))
    refine gnm ?_; rw [hmx]
    refine po_callPu hS hL rfl rfl (C42 (nextN l a) (max x.names.length 1 : Nat) (hnx a) (by omega)) (by (repeat (first | (with_reducible exact Pick.nil) | ((with_reducible apply Pick.cons); · (repeat (first | exact Rem.head | apply Rem.tail)))))) (fun hS => ?_)
    refine gor hL ?_; (repeat (clear hL; intro t hL; refine gor hL ?_))
    refine po_storeSt hS hL rfl rfl (by repeat (first | exact Rem.head | apply Rem.tail)) rfl ⟨rfl, rfl⟩ (of_decide_eq_true rfl) rfl (by (repeat (first | (with_reducible exact Pick.nil) | ((with_reducible apply Pick.cons); · (repeat (first | exact Rem.head | apply Rem.tail)))))) (fun t hL hS => ?_)
    refine gor hL ?_; (repeat (clear hL; intro t hL; refine gor hL ?_))
    rw [← hQ]
    exact pfinK () (pret_one (pres_cellL hL rfl Rem.head rfl)) (.inr rfl) hL
  have h7n : x.kind ≠ 7 := by simpa using h7
  refine gor hL ?_; (repeat (clear hL; intro t hL; refine gor hL ?_))
  refine pcond_b rfl (fun h5 => ?_) (fun h5 => ?_)
  · have h5' : x.kind = 5 := by simpa using h5
    refine gor hL ?_; (repeat (clear hL; intro t hL; refine gor hL ?_))
    (refine gor hL ?_; (repeat (clear hL; intro t hL; refine gor hL ?_))); (with_reducible refine po_allocL hL rfl ?_); clear hL; intro p11 t hL
    refine gor hL ?_; (repeat (clear hL; intro t hL; refine gor hL ?_))
    refine pcond_b rfl (fun hm1 => ?_) (fun hm1 => ?_)
    · have hm1' : m + 1 > 100 := by simp at hm1; omega
      have hQ := hset (show buildM l (d + 1) x a m = ⟨VT.zero, a, m + 1⟩ by rw [buildM, if_neg h0n, if_neg h1n, if_neg h2n, if_neg h3n, if_neg h4n, if_neg h7n, if_pos h5', if_pos hm1'])
      simp only [bF, capN, capB] at hQ
      refine gor hL ?_; (repeat (clear hL; intro t hL; refine gor hL ?_))
      rw [← hQ]
      exact pfinK () (pret_one (pres_cellL hL rfl Rem.head rfl)) (.inr rfl) hL
    have hm1' : ¬ m + 1 > 100 := by simp at hm1; omega
    have hQ := hset (show buildM l (d + 1) x a m = _ by rw [buildM, if_neg h0n, if_neg h1n, if_neg h2n, if_neg h3n, if_neg h4n, if_neg h7n, if_pos h5', if_neg hm1'])
    simp only [bF, capN, capB] at hQ
    have hwn := C42 (nextN l a) 4 (hnx a) (by decide)
    have hol := hx.2.1
    have h40 : 0 ≤ nextN l a % 4 ∧ nextN l a % 4 < 4 := ⟨Int.emod_nonneg _ (by decide), Int.emod_lt_of_pos _ (by decide)⟩
    have hps := hp.1
    obtain ⟨n, hn⟩ : ∃ n : Nat, min (min (nextN l a % 4) x.most) (4 * (x.of.length : Int)) = n := ⟨_, (Int.toNat_of_nonneg (by omega)).symm⟩
    have hn3 : n ≤ 3 := by omega
    have hn0 : x.of.length = 0 → n = 0 := by omega
    rw [hn, Int.toNat_natCast] at hQ
    refine gor hL ?_; (repeat (clear hL; intro t hL; refine gor hL ?_))
    refine po_loadSt (H := [.box pn [.d (.fn 40 [] [.ptr pl 0, .ptr pa 0])], .box p5 [.d (.int .u8 x.kind), .d (.int .i64 x.most), .d (.sl (x.names.map fun s => [.str s])), .d (.sl (x.of.map KT.row))]]) (Stb.start _ (fun _ => .undef) t) hL rfl rfl (by repeat (first | exact Rem.head | apply Rem.tail)) (by (repeat (first | (with_reducible exact Pick.nil) | ((with_reducible apply Pick.cons); · (repeat (first | exact Rem.head | apply Rem.tail)))))) rfl (fun hS => ?_)
    refine po_callvSt hS hL rfl rfl rfl (nextC l hl a (by omega) pl pa hne) (by (repeat (first | (with_reducible exact Pick.nil) | ((with_reducible apply Pick.cons); · (repeat (first | exact Rem.head | apply Rem.tail)))))) (by (repeat (first | (with_reducible exact Pick.nil) | ((with_reducible apply Pick.cons); · (repeat (first | exact Rem.head | apply Rem.tail)))))) (fun _ t hL hS => ?_)
    refine gor hL ?_; (repeat (clear hL; intro t hL; refine gor hL ?_))
    refine po_callPu hS hL rfl rfl hwn (by (repeat (first | (with_reducible exact Pick.nil) | ((with_reducible apply Pick.cons); · (repeat (first | exact Rem.head | apply Rem.tail)))))) (fun hS => ?_)
    refine gor hL ?_; (repeat (clear hL; intro t hL; refine gor hL ?_))
    refine po_loadSt hS hL rfl rfl (by repeat (first | exact Rem.head | apply Rem.tail)) (by (repeat (first | (with_reducible exact Pick.nil) | ((with_reducible apply Pick.cons); · (repeat (first | exact Rem.head | apply Rem.tail)))))) rfl (fun hS => ?_)
    refine gor hL ?_; (repeat (clear hL; intro t hL; refine gor hL ?_))
    refine po_loadSt hS hL rfl rfl (by repeat (first | exact Rem.head | apply Rem.tail)) (by (repeat (first | (with_reducible exact Pick.nil) | ((with_reducible apply Pick.cons); · (repeat (first | exact Rem.head | apply Rem.tail)))))) rfl (fun hS => ?_)
    refine gor hL ?_; (repeat (clear hL; intro t hL; refine gor hL ?_))
    have e4 : IntKind.i64.wrap (4 * (x.of.length : Int)) = 4 * x.of.length := IntWalk.i64_in _ (by omega)
    have hmx : (if 4 * (x.of.length : Int) < (if x.most < nextN l a % 4 then x.most else nextN l a % 4) then 4 * (x.of.length : Int) else (if x.most < nextN l a % 4 then x.most else nextN l a % 4)) = (n : Int) := by rw [← hn]; split <;> split <;> omega
    refine gnm ?_
    simp only [if_false]
    rw [e4, hmx]
    rw [show (m : Int) + 1 = ((m + 1 : Nat) : Int) from rfl] at hL
    generalize hz : x.of.getD 0 (.mk 0 0 [] []) = z at *
    have hna := nextA_le l a
    simp only [cost] at hcost
    have hsm : ∀ k, (((List.replicate n z).take k).map (cost d)).sum ≤ ((List.replicate n z).map (cost d)).sum := fun k => by
      have := congrArg (fun z => (z.map (cost d)).sum) (List.take_append_drop k (List.replicate n z))
      simp only [List.map_append, List.sum_append] at this
      omega
    have hsr : ((List.replicate n z).map (cost d)).sum ≤ 4 * (x.of.map (cost d)).sum := by
      by_cases h0 : x.of.length = 0
      · rw [hn0 h0]; simp
      · have hy0 : x.of[0]? = some z := by rw [← hz, List.getD_eq_getElem?_getD, List.getElem?_eq_getElem (by omega)]; rfl
        have := sum_get (c := cost d) hy0
        rw [List.map_replicate, List.sum_replicate_nat]
        have : n * cost d z ≤ 3 * cost d z := Nat.mul_le_mul_right _ hn3
        omega
    (apply prangeJ (n) (by omega) (fun k t => ∃ v, Lay st [.box p11 [.d (.int .i64 0), .d (.flt .f64 0), .d (.str (bs [])), v], .vec v ((foldB (buildM l d) ((List.replicate n z).take k) (nextA l a) (m + 1)).1.map VT.row) 4, .box p7 [.d (.int .i64 0), .d (.flt .f64 0), .d (.str (bs [])), .full []], .box p5 [.d (.int .u8 x.kind), .d (.int .i64 x.most), .d (.sl (x.names.map fun s => [.str s])), .d (.sl (x.of.map KT.row))], .box pm [i64 (foldB (buildM l d) ((List.replicate n z).take k) (nextA l a) (m + 1)).2.2], .box pa [i64 (foldB (buildM l d) ((List.replicate n z).take k) (nextA l a) (m + 1)).2.1], .box pl [.d (i64s l)], .box pn [.d (.fn 40 [] [.ptr pl 0, .ptr pa 0])], .box pb [.d (.fn 41 [] [.ptr pm 0, .ptr pn 0, .ptr pb 0])]] t)); (· exact trimA); (· exact fun _ => rfl)
    · exact ⟨.full [], (hL.full [] 4).pk⟩
    · rintro t ⟨v, hL⟩
      rw [List.take_of_length_le (by simp)] at hL
      have fv := hL.vk v
      obtain ⟨fv_r, fv_w, fv_w1, fv_c, fv_s, fv_d⟩ := id fv
      refine gor hL ?_; (repeat (clear hL; intro t hL; refine gor hL ?_))
      rw [← hQ]
      exact pfinK () (pret_one (pres_cellL hL rfl Rem.head rfl)) (.inr (by simp only [pvwk, List.map_cons, List.map_nil, fv_w1, VT.av_eq]; rfl)) hL
    · rintro k hk t ⟨v, hL⟩
      have hy : (List.replicate n z)[k]? = some z := by rw [List.getElem?_replicate, if_pos hk]
      have h0 : x.of.length ≠ 0 := fun e => by rw [hn0 e] at hk; omega
      have hy0 : x.of[0]? = some z := by rw [← hz, List.getD_eq_getElem?_getD, List.getElem?_eq_getElem (by omega)]; rfl
      have hym := List.mem_of_getElem? hy0
      have hbd := foldB_bound (c := cost d) (f := buildM l d) (ts := (List.replicate n z).take k) (fun u _ a m h => buildM_bound l d u a m h) (nextA l a) (m + 1) (by omega)
      have hs1 := hsm (k + 1)
      rw [map_take_snoc _ hy, List.sum_append] at hs1
      have hol2 := foldB_len (buildM l d) ((List.replicate n z).take k) (nextA l a) (m + 1)
      rw [List.length_take] at hol2
      have hsn := foldB_snoc (buildM l d) ((List.replicate n z).take k) z (nextA l a) (m + 1)
      rw [← take_snoc hy] at hsn
      rw [hsn]
      clear hsn
      generalize foldB (buildM l d) ((List.replicate n z).take k) (nextA l a) (m + 1) = F at *
      obtain ⟨os, A, M⟩ := F
      simp only at hL hbd hol2 ⊢
      have fv := hL.vk v
      obtain ⟨fv_r, fv_w, fv_w1, fv_c, fv_s, fv_d⟩ := id fv
      refine pblock ?_
      refine gor hL ?_; (repeat (clear hL; intro t hL; refine gor hL ?_))
      refine po_loadSt (H := [.box p11 [.d (.int .i64 0), .d (.flt .f64 0), .d (.str (bs [])), v], .box pb [.d (.fn 41 [] [.ptr pm 0, .ptr pn 0, .ptr pb 0])], .box p5 [.d (.int .u8 x.kind), .d (.int .i64 x.most), .d (.sl (x.names.map fun s => [.str s])), .d (.sl (x.of.map KT.row))]]) (Stb.start _ (fun _ => .undef) t) hL rfl rfl (by repeat (first | exact Rem.head | apply Rem.tail)) (by (repeat (first | (with_reducible exact Pick.nil) | ((with_reducible apply Pick.cons); · (repeat (first | exact Rem.head | apply Rem.tail)))))) rfl (fun hS => ?_)
      refine gor hL ?_; (repeat (clear hL; intro t hL; refine gor hL ?_))
      refine po_loadSt hS hL rfl rfl (by repeat (first | exact Rem.head | apply Rem.tail)) (by (repeat (first | (with_reducible exact Pick.nil) | ((with_reducible apply Pick.cons); · (repeat (first | exact Rem.head | apply Rem.tail)))))) rfl (fun hS => ?_)
      refine gor hL ?_; (repeat (clear hL; intro t hL; refine gor hL ?_))
      refine po_loadSt hS hL rfl rfl (by repeat (first | exact Rem.head | apply Rem.tail)) (by (repeat (first | (with_reducible exact Pick.nil) | ((with_reducible apply Pick.cons); · (repeat (first | exact Rem.head | apply Rem.tail)))))) rfl (fun hS => ?_)
      refine gor hL ?_; (repeat (clear hL; intro t hL; refine gor hL ?_))
      have hc := ih z A M (by omega) (hx.2.2 z hym) (hp.2 z hym) hbd.1 (by simp only [List.sum_cons, List.sum_nil, Nat.add_zero] at hs1; omega) hnd
      rw [KT.av_eq] at hc
      refine gnm ?_; rw [IntWalk.i64_in (((d + 1 : Nat) : Int) - 1) (by omega), show ((d + 1 : Nat) : Int) - 1 = d by omega]
      refine po_callvSu hS hL rfl rfl rfl hc (by (repeat (first | (with_reducible exact Pick.nil) | ((with_reducible apply Pick.cons); · (repeat (first | exact Rem.head | apply Rem.tail)))))) (by (repeat (first | (with_reducible exact Pick.nil) | ((with_reducible apply Pick.cons); · (repeat (first | exact Rem.head | apply Rem.tail)))))) (fun _ => (by (repeat (first | (with_reducible exact Pick.nil) | ((with_reducible apply Pick.cons); · (repeat (first | exact Rem.head | apply Rem.tail))))))) (fun _ t hL hS => ?_)
      rw [VT.av_eq]
      refine gor hL ?_; (repeat (clear hL; intro t hL; refine gor hL ?_))
      have hr4 : ∀ r ∈ os.map VT.row, r.length = 4 := fun r hr => by
        obtain ⟨i, _, rfl⟩ := List.mem_map.1 hr; exact VT.row_len _
      refine po_appA hL hr4 ?_ ?_; (· simp; omega); clear hL; intro v' t f' hL; obtain ⟨f'_r, f'_w, f'_w1, f'_c, f'_s, f'_d⟩ := id f'
      rw [show os.map VT.row ++ [[.int .i64 (buildM l d z A M).v.n, .flt .f64 (buildM l d z A M).v.f, .str (buildM l d z A M).v.s, .sl ((buildM l d z A M).v.of.map VT.row)]] = (os ++ [(buildM l d z A M).v]).map VT.row by rw [List.map_append, List.map_cons, VT.row_eq (buildM l d z A M).v]; rfl] at hL f' f'_w1
      refine gor hL ?_; (repeat (clear hL; intro t hL; refine gor hL ?_))
      refine po_storeoL hL rfl rfl (by repeat (first | exact Rem.head | apply Rem.tail)) f'_c ⟨rfl, by simp [f'_s]⟩ (of_decide_eq_true rfl) rfl (fun t hL => ?_)
      refine gor hL ?_; (repeat (clear hL; intro t hL; refine gor hL ?_))
      exact ⟨⟨v', hL.pk⟩, tr2⟩
  have h5n : x.kind ≠ 5 := by simpa using h5
  refine gor hL ?_; (repeat (clear hL; intro t hL; refine gor hL ?_))
  refine pcond_b rfl (fun h6 => ?_) (fun h6 => ?_)
  · have h6' : x.kind = 6 := by simpa using h6
    have hQ := hset (show buildM l (d + 1) x a m = _ by rw [buildM, if_neg h0n, if_neg h1n, if_neg h2n, if_neg h3n, if_neg h4n, if_neg h7n, if_neg h5n, if_pos h6'])
    simp only [bF, capN, capB] at hQ
    refine gor hL ?_; (repeat (clear hL; intro t hL; refine gor hL ?_))
    (refine gor hL ?_; (repeat (clear hL; intro t hL; refine gor hL ?_))); (with_reducible refine po_allocL hL rfl ?_); clear hL; intro p12 t hL
    refine gor hL ?_; (repeat (clear hL; intro t hL; refine gor hL ?_))
    have hsm : ∀ k, ((x.of.take k).map (cost d)).sum ≤ (x.of.map (cost d)).sum := fun k => by
      have := congrArg (fun z => (z.map (cost d)).sum) (List.take_append_drop k x.of)
      simp only [List.map_append, List.sum_append] at this
      omega
    simp only [cost] at hcost
    rw [show (m : Int) + 1 = ((m + 1 : Nat) : Int) from rfl] at hL
    (apply prangeJ (x.of.length) (by omega) (fun k t => ∃ v, Lay st [.box p12 [.d (.int .i64 0), .d (.flt .f64 0), .d (.str (bs [])), v], .vec v ((foldB (buildM l d) (x.of.take k) a (m + 1)).1.map VT.row) 4, .box p7 [.d (.int .i64 0), .d (.flt .f64 0), .d (.str (bs [])), .full []], .box pm [i64 (foldB (buildM l d) (x.of.take k) a (m + 1)).2.2], .box pa [i64 (foldB (buildM l d) (x.of.take k) a (m + 1)).2.1], .box pl [.d (i64s l)], .box pn [.d (.fn 40 [] [.ptr pl 0, .ptr pa 0])], .box pb [.d (.fn 41 [] [.ptr pm 0, .ptr pn 0, .ptr pb 0])]] t)); (· exact trimA); (· exact fun _ => rfl)
    · exact ⟨.full [], (hL.full [] 4).pk⟩
    · rintro t ⟨v, hL⟩
      rw [List.take_length] at hL
      have fv := hL.vk v
      obtain ⟨fv_r, fv_w, fv_w1, fv_c, fv_s, fv_d⟩ := id fv
      refine gor hL ?_; (repeat (clear hL; intro t hL; refine gor hL ?_))
      rw [← hQ]
      exact pfinK () (pret_one (pres_cellL hL rfl Rem.head rfl)) (.inr (by simp only [pvwk, List.map_cons, List.map_nil, fv_w1, VT.av_eq]; rfl)) hL
    · rintro k hk t ⟨v, hL⟩
      obtain ⟨y, hy, hym⟩ := elem_at hk
      have hbd := foldB_bound (c := cost d) (f := buildM l d) (ts := x.of.take k) (fun u _ a m h => buildM_bound l d u a m h) a (m + 1) (by omega)
      have hs1 := hsm (k + 1)
      rw [map_take_snoc _ hy, List.sum_append] at hs1
      have hol := foldB_len (buildM l d) (x.of.take k) a (m + 1)
      rw [List.length_take] at hol
      have hsn := foldB_snoc (buildM l d) (x.of.take k) y a (m + 1)
      rw [← take_snoc hy] at hsn
      rw [hsn]
      clear hsn
      generalize foldB (buildM l d) (x.of.take k) a (m + 1) = F at *
      obtain ⟨os, A, M⟩ := F
      simp only at hL hbd hol ⊢
      have fv := hL.vk v
      obtain ⟨fv_r, fv_w, fv_w1, fv_c, fv_s, fv_d⟩ := id fv
      refine pblock ?_
      (refine gor hL ?_; (repeat (clear hL; intro t hL; refine gor hL ?_))); (with_reducible refine po_allocL hL rfl ?_); clear hL; intro p14 t hL
      refine gor hL ?_; (repeat (clear hL; intro t hL; refine gor hL ?_))
      refine po_loadSt (H := [.box p12 [.d (.int .i64 0), .d (.flt .f64 0), .d (.str (bs [])), v], .box pb [.d (.fn 41 [] [.ptr pm 0, .ptr pn 0, .ptr pb 0])], .box p14 [.d (.int .u8 y.kind), .d (.int .i64 y.most), .d (.sl (y.names.map fun s => [.str s])), .d (.sl (y.of.map KT.row))]]) (Stb.start _ (fun _ => .undef) t) hL rfl rfl (by repeat (first | exact Rem.head | apply Rem.tail)) (by (repeat (first | (with_reducible exact Pick.nil) | ((with_reducible apply Pick.cons); · (repeat (first | exact Rem.head | apply Rem.tail)))))) rfl (fun hS => ?_)
      refine gor hL ?_; (repeat (clear hL; intro t hL; refine gor hL ?_))
      refine po_loadSt hS hL rfl rfl (by repeat (first | exact Rem.head | apply Rem.tail)) (by (repeat (first | (with_reducible exact Pick.nil) | ((with_reducible apply Pick.cons); · (repeat (first | exact Rem.head | apply Rem.tail)))))) rfl (fun hS => ?_)
      refine gor hL ?_; (repeat (clear hL; intro t hL; refine gor hL ?_))
      refine po_loadSt hS hL rfl rfl (by repeat (first | exact Rem.head | apply Rem.tail)) (by (repeat (first | (with_reducible exact Pick.nil) | ((with_reducible apply Pick.cons); · (repeat (first | exact Rem.head | apply Rem.tail)))))) rfl (fun hS => ?_)
      refine gor hL ?_; (repeat (clear hL; intro t hL; refine gor hL ?_))
      have hc := ih y A M (by omega) (hx.2.2 y hym) (hp.2 y hym) hbd.1 (by simp only [List.sum_cons, List.sum_nil, Nat.add_zero] at hs1; omega) hnd
      rw [KT.av_eq] at hc
      refine gnm ?_; rw [IntWalk.i64_in (((d + 1 : Nat) : Int) - 1) (by omega), show ((d + 1 : Nat) : Int) - 1 = d by omega]
      refine po_callvSu hS hL rfl rfl rfl hc (by (repeat (first | (with_reducible exact Pick.nil) | ((with_reducible apply Pick.cons); · (repeat (first | exact Rem.head | apply Rem.tail)))))) (by (repeat (first | (with_reducible exact Pick.nil) | ((with_reducible apply Pick.cons); · (repeat (first | exact Rem.head | apply Rem.tail)))))) (fun _ => (by (repeat (first | (with_reducible exact Pick.nil) | ((with_reducible apply Pick.cons); · (repeat (first | exact Rem.head | apply Rem.tail))))))) (fun _ t hL hS => ?_)
      rw [VT.av_eq]
      refine gor hL ?_; (repeat (clear hL; intro t hL; refine gor hL ?_))
      have hr4 : ∀ r ∈ os.map VT.row, r.length = 4 := fun r hr => by
        obtain ⟨i, _, rfl⟩ := List.mem_map.1 hr; exact VT.row_len _
      refine po_appA hL hr4 ?_ ?_; (· simp; omega); clear hL; intro v' t f' hL; obtain ⟨f'_r, f'_w, f'_w1, f'_c, f'_s, f'_d⟩ := id f'
      rw [show os.map VT.row ++ [[.int .i64 (buildM l d y A M).v.n, .flt .f64 (buildM l d y A M).v.f, .str (buildM l d y A M).v.s, .sl ((buildM l d y A M).v.of.map VT.row)]] = (os ++ [(buildM l d y A M).v]).map VT.row by rw [List.map_append, List.map_cons, VT.row_eq (buildM l d y A M).v]; rfl] at hL f' f'_w1
      refine gor hL ?_; (repeat (clear hL; intro t hL; refine gor hL ?_))
      refine po_storeoL hL rfl rfl (by repeat (first | exact Rem.head | apply Rem.tail)) f'_c ⟨rfl, by simp [f'_s]⟩ (of_decide_eq_true rfl) rfl (fun t hL => ?_)
      refine gor hL ?_; (repeat (clear hL; intro t hL; refine gor hL ?_))
      exact ⟨⟨v', hL.pk⟩, tr2⟩
  have h6n : x.kind ≠ 6 := by simpa using h6
  refine gor hL ?_; (repeat (clear hL; intro t hL; refine gor hL ?_))
  refine pcond_b rfl (fun h8 => ?_) (fun h8 => ?_)
  · have h8' : x.kind = 8 := by simpa using h8
    refine gor hL ?_; (repeat (clear hL; intro t hL; refine gor hL ?_))
    refine pcond_b rfl (fun hl0 => ?_) (fun hl0 => ?_)
    · have hl0' : x.of.length = 0 := by simpa using hl0
      have hQ := hset (show buildM l (d + 1) x a m = ⟨VT.zero, a, m + 1⟩ by rw [buildM, if_neg h0n, if_neg h1n, if_neg h2n, if_neg h3n, if_neg h4n, if_neg h7n, if_neg h5n, if_neg h6n, if_pos h8', if_pos hl0'])
      simp only [bF, capN, capB] at hQ
      refine gor hL ?_; (repeat (clear hL; intro t hL; refine gor hL ?_))
      rw [← hQ]
      exact pfinK () (pret_one (pres_cellL hL rfl Rem.head rfl)) (.inr rfl) hL
    have hl0' : x.of.length ≠ 0 := by simpa using hl0
    have hQ := hset (show buildM l (d + 1) x a m = _ by rw [buildM, if_neg h0n, if_neg h1n, if_neg h2n, if_neg h3n, if_neg h4n, if_neg h7n, if_neg h5n, if_neg h6n, if_pos h8', if_neg hl0'])
    have hol := hx.2.1
    have hwn := C42 (nextN l a) x.of.length (hnx a) (by omega)
    obtain ⟨kk, hkk⟩ : ∃ kk : Nat, nextN l a % (x.of.length : Int) = kk := ⟨_, (Int.toNat_of_nonneg (Int.emod_nonneg _ (by omega))).symm⟩
    have hlt : kk < x.of.length := by
      have := Int.emod_lt_of_pos (nextN l a) (show (0 : Int) < x.of.length by omega)
      omega
    obtain ⟨y, hy, hym⟩ := elem_at hlt
    rw [hkk] at hwn
    rw [hkk, Int.toNat_natCast, List.getD_eq_getElem?_getD, hy, Option.getD_some] at hQ
    simp only [bF, capN, capB] at hQ
    have hna := nextA_le l a
    have hsg := sum_get (c := cost d) hy
    simp only [cost] at hcost
    have hc := ih y (nextA l a) (m + 1) (by omega) (hx.2.2 y hym) (hp.2 y hym) (by omega) (by omega) hnd
    rw [KT.av_eq] at hc
    refine gor hL ?_; (repeat (clear hL; intro t hL; refine gor hL ?_))
    refine po_loadSt (H := [.box pn [.d (.fn 40 [] [.ptr pl 0, .ptr pa 0])], .box p5 [.d (.int .u8 x.kind), .d (.int .i64 x.most), .d (.sl (x.names.map fun s => [.str s])), .d (.sl (x.of.map KT.row))]]) (Stb.start _ (fun _ => .undef) t) hL rfl rfl (by repeat (first | exact Rem.head | apply Rem.tail)) (by (repeat (first | (with_reducible exact Pick.nil) | ((with_reducible apply Pick.cons); · (repeat (first | exact Rem.head | apply Rem.tail)))))) rfl (fun hS => ?_)
    refine po_callvSt hS hL rfl rfl rfl (nextC l hl a (by omega) pl pa hne) (by (repeat (first | (with_reducible exact Pick.nil) | ((with_reducible apply Pick.cons); · (repeat (first | exact Rem.head | apply Rem.tail)))))) (by (repeat (first | (with_reducible exact Pick.nil) | ((with_reducible apply Pick.cons); · (repeat (first | exact Rem.head | apply Rem.tail)))))) (fun _ t hL hS => ?_)
    refine gor hL ?_; (repeat (clear hL; intro t hL; refine gor hL ?_))
    refine po_loadSt hS hL rfl rfl (by repeat (first | exact Rem.head | apply Rem.tail)) (by (repeat (first | (with_reducible exact Pick.nil) | ((with_reducible apply Pick.cons); · (repeat (first | exact Rem.head | apply Rem.tail)))))) rfl (fun hS => ?_)
    refine gor hL ?_; (repeat (clear hL; intro t hL; refine gor hL ?_))
    refine po_callPu hS hL rfl rfl hwn (by (repeat (first | (with_reducible exact Pick.nil) | ((with_reducible apply Pick.cons); · (repeat (first | exact Rem.head | apply Rem.tail)))))) (fun hS => ?_)
    refine gor hL ?_; (repeat (clear hL; intro t hL; refine gor hL ?_))
    refine po_loadSt (H := [.box pb [.d (.fn 41 [] [.ptr pm 0, .ptr pn 0, .ptr pb 0])], .box p5 [.d (.int .u8 x.kind), .d (.int .i64 x.most), .d (.sl (x.names.map fun s => [.str s])), .d (.sl (x.of.map KT.row))]]) (Stb.start _ (fun _ => .undef) _) hL rfl rfl (by repeat (first | exact Rem.head | apply Rem.tail)) (by (repeat (first | (with_reducible exact Pick.nil) | ((with_reducible apply Pick.cons); · (repeat (first | exact Rem.head | apply Rem.tail)))))) rfl (fun hS => ?_)
    refine gor hL ?_; (repeat (clear hL; intro t hL; refine gor hL ?_))
    refine po_loadSt hS hL rfl rfl (by repeat (first | exact Rem.head | apply Rem.tail)) (by (repeat (first | (with_reducible exact Pick.nil) | ((with_reducible apply Pick.cons); · (repeat (first | exact Rem.head | apply Rem.tail)))))) rfl (fun hS => ?_)
    refine gor hL ?_; (repeat (clear hL; intro t hL; refine gor hL ?_))
    refine gnm ?_; rw [IntWalk.i64_in (((d + 1 : Nat) : Int) - 1) (by omega), show ((d + 1 : Nat) : Int) - 1 = d by omega]
    rw [show (m : Int) + 1 = ((m + 1 : Nat) : Int) from rfl] at hL
    refine po_callvSu hS hL rfl rfl rfl hc (by (repeat (first | (with_reducible exact Pick.nil) | ((with_reducible apply Pick.cons); · (repeat (first | exact Rem.head | apply Rem.tail)))))) (by (repeat (first | (with_reducible exact Pick.nil) | ((with_reducible apply Pick.cons); · (repeat (first | exact Rem.head | apply Rem.tail)))))) (fun _ => (by (repeat (first | (with_reducible exact Pick.nil) | ((with_reducible apply Pick.cons); · (repeat (first | exact Rem.head | apply Rem.tail))))))) (fun _ t hL hS => ?_)
    rw [VT.av_eq]
    refine gor hL ?_; (repeat (clear hL; intro t hL; refine gor hL ?_))
    refine po_storeSt hS hL rfl rfl (by repeat (first | exact Rem.head | apply Rem.tail)) rfl ⟨rfl, rfl⟩ (of_decide_eq_true rfl) rfl (by (repeat (first | (with_reducible exact Pick.nil) | ((with_reducible apply Pick.cons); · (repeat (first | exact Rem.head | apply Rem.tail)))))) (fun t hL hS => ?_)
    refine gor hL ?_; (repeat (clear hL; intro t hL; refine gor hL ?_))
    rw [← hQ]
    exact pfinK () (pret_one (pres_cellL hL rfl Rem.head rfl)) (.inr (by simp only [VT.av_eq, VT.n, VT.f, VT.s, VT.of, List.map_cons, List.map_nil, VT.row_eq, VT.cs]; rfl)) hL
  have h8n : x.kind ≠ 8 := by simpa using h8
  have hQ := hset (show buildM l (d + 1) x a m = ⟨VT.zero, a, m + 1⟩ by rw [buildM, if_neg h0n, if_neg h1n, if_neg h2n, if_neg h3n, if_neg h4n, if_neg h7n, if_neg h5n, if_neg h6n, if_neg h8n])
  simp only [bF, capN, capB] at hQ
  refine gor hL ?_; (repeat (clear hL; intro t hL; refine gor hL ?_))
  rw [← hQ]
  exact pfinK () (pret_one (pres_cellL hL rfl Rem.head rfl)) (.inr rfl) hL
end Go.Pv
namespace Go.Pv
open Go.Proofs
set_option maxRecDepth 100000
set_option maxHeartbeats 8000000

/-- prompter/value.Build -/
abbrev c18_4 : PCode :=
 (.seq (.region [⟨(.some 11), (.load .false 1 (.t 8) .false), .none⟩,
   ⟨(.some 12), (.load .true 4 (.t 2) .false), .none⟩,
   ⟨(.some 13), (.callv0 (.t 11) [(.t 12), (.c (.d (.int .i64 20)))]), .none⟩,
   ⟨.none, (.store 4 (.t 4) (.t 13)), .none⟩])
 .ret)
abbrev c18_3 : PCode :=
 (.seq (.region [⟨(.some 10), (.mkfn 41 [] [(.t 6), (.t 7), (.t 8)]), .none⟩,
   ⟨.none, (.store 1 (.t 8) (.t 10)), .none⟩])
 c18_4)
abbrev c18_2 : PCode :=
 (.keep [2, 4, 6, 7] (.seq (.region [⟨(.some 8), (.alloc [(.d .nilf)]), .none⟩])
 c18_3))
abbrev c18_1 : PCode :=
 (.keep [2, 3, 4, 5, 6] (.seq (.region [⟨(.some 9), (.mkfn 40 [] [(.t 3), (.t 5)]), .none⟩,
   ⟨(.some 7), (.alloc [(.d .nilf)]), .none⟩,
   ⟨.none, (.store 1 (.t 7) (.t 9)), .none⟩])
 c18_2))
abbrev c18_0 : PCode :=
 (.keep [2, 3, 4] (.seq (.region [⟨(.some 5), (.alloc [(.d (.int .i64 0))]), .none⟩,
   ⟨(.some 6), (.alloc [(.d (.int .i64 0))]), .none⟩,
   ⟨.none, (.store 1 (.t 5) (.c (.d (.int .i64 0)))), .none⟩,
   ⟨.none, (.store 1 (.t 6) (.c (.d (.int .i64 0)))), .none⟩])
 c18_1))
def c18 : PFun := ⟨
 (.seq (.region [⟨(.some 2), (.box 4 (.t 0)), .none⟩,
   ⟨(.some 3), (.box 1 (.t 1)), .none⟩,
   ⟨(.some 4), (.alloc [(.d (.int .i64 0)), (.d (.flt .f64 0)), (.d (.str (bs []))), (.full [])]), .none⟩])
 c18_0),
 2, 14, [(.cell 4 .true 4)]⟩

theorem e18 : entered Try.prog 18 = true := by kernel_rfl
theorem k18 : compFun Try.prog (fun _ => 0) 18 = some c18.er := by kernel_rfl


theorem bF_nd {l : List Int} {pm pa pl pn pb m a : Nat} {st t : St} (h : Lay st (bF l pm pa pl pn pb m a) t) : [pm, pa, pl, pn, pb].Nodup := by
  have h1 := h.apart
  simp [bF, Item.blk] at h1
  simp
  omega

theorem C18 (l : List Int) (hl : l.length < 2 ^ 40) (hr : ∀ x ∈ l, -9223372036854775808 ≤ x ∧ x ≤ 9223372036854775807) (x : KT) (hx : x.fit) (hp : posd 20 x) (hc : cost 20 x < 2 ^ 60) :
    Pure (PCalls Try.prog GG) 18 [x.av, .d (i64s l)] (buildV l x).av := by
  rw [KT.av_eq]
  intro st; refine pcalls_of k18 e18 (of_decide_eq_true rfl) ?_; dsimp only [c18]; refine pstartL ?_; intro t hL; generalize hQ : pfin _ _ = Q
  (refine gor hL ?_; (repeat (clear hL; intro t hL; refine gor hL ?_))); refine po_boxA hL ?_; clear hL; intro p2 t hL
  (refine gor hL ?_; (repeat (clear hL; intro t hL; refine gor hL ?_))); refine po_boxA hL ?_; clear hL; intro p3 t hL
  (refine gor hL ?_; (repeat (clear hL; intro t hL; refine gor hL ?_))); (with_reducible refine po_allocL hL rfl ?_); clear hL; intro p4 t hL
  (refine gor hL ?_; (repeat (clear hL; intro t hL; refine gor hL ?_))); (with_reducible refine po_allocL hL rfl ?_); clear hL; intro p5 t hL
  (refine gor hL ?_; (repeat (clear hL; intro t hL; refine gor hL ?_))); (with_reducible refine po_allocL hL rfl ?_); clear hL; intro p6 t hL
  refine gor hL ?_; (repeat (clear hL; intro t hL; refine gor hL ?_))
  (refine gor hL ?_; (repeat (clear hL; intro t hL; refine gor hL ?_))); (with_reducible refine po_allocL hL rfl ?_); clear hL; intro p7 t hL
  refine gor hL ?_; (repeat (clear hL; intro t hL; refine gor hL ?_))
  (refine gor hL ?_; (repeat (clear hL; intro t hL; refine gor hL ?_))); (with_reducible refine po_allocL hL rfl ?_); clear hL; intro p8 t hL
  refine gor hL ?_; (repeat (clear hL; intro t hL; refine gor hL ?_))
  have hnd : [p6, p5, p3, p7, p8].Nodup := bF_nd (l := l) (m := 0) (a := 0) (by simp only [bF, capN, capB]; exact hL.pk)
  have hb := buildC l hl hr 20 x 0 0 (by decide) hx hp (Nat.le_refl _) (by omega) hnd
  rw [KT.av_eq] at hb
  simp only [bF, capN, capB] at hb
  refine po_callvK hL hb ?_
  clear hL; intro _ t hL
  rw [VT.av_eq]
  refine gor hL ?_; (repeat (clear hL; intro t hL; refine gor hL ?_))
  rw [← hQ]
  refine pwk1 hL ?_
  rw [buildV, VT.av_eq]; rfl
end Go.Pv
