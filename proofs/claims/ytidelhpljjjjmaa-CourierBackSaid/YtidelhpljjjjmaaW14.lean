/- Functions of the program, by value. No condition. -/
import Derived.Test.YtidelhpljjjjmaaW9
import Derived.Test.YtidelhpljjjjmaaW10
import Derived.Test.YtidelhpljjjjmaaW4
import Derived.Test.YtidelhpljjjjmaaV11
namespace Go.Pv
open Go.Proofs
set_option maxRecDepth 100000
set_option maxHeartbeats 8000000
/-- prompter/prompterref01.Long -/
abbrev c55_0 : PCode :=
 (.seq (.region [⟨(.some 3), (.mov (.t 0)), .none⟩,
   ⟨(.some 4), (.bin .quo (.t 3) (.c (.d (.int .u32 65536)))), .none⟩,
   ⟨(.some 5), (.cvt .i64 (.t 4)), .none⟩,
   ⟨(.some 6), (.call0 58 [(.t 5)]), .none⟩,
   ⟨(.some 7), (.mov (.t 0)), .none⟩,
   ⟨(.some 8), (.bin .rem (.t 7) (.c (.d (.int .u32 65536)))), .none⟩,
   ⟨(.some 9), (.cvt .i64 (.t 8)), .none⟩,
   ⟨(.some 10), (.call0 58 [(.t 9)]), .none⟩,
   ⟨(.some 11), (.app 1 1 (.t 6) (.t 10)), .none⟩,
   ⟨(.some 2), (.mov (.t 11)), .none⟩])
 .ret)
def c55 : PFun := ⟨
 (.seq (.region [⟨(.some 2), (.mov (.c (.full []))), .none⟩])
 c55_0),
 1, 12, [(.tmp 2)]⟩

/-- prompter/prompterref01.Quad -/
abbrev c56_0 : PCode :=
 (.seq (.region [⟨(.some 3), (.mov (.t 0)), .none⟩,
   ⟨(.some 4), (.bin .quo (.t 3) (.c (.d (.int .u64 4294967296)))), .none⟩,
   ⟨(.some 5), (.cvt .u32 (.t 4)), .none⟩,
   ⟨(.some 6), (.call0 55 [(.t 5)]), .none⟩,
   ⟨(.some 7), (.mov (.t 0)), .none⟩,
   ⟨(.some 8), (.bin .rem (.t 7) (.c (.d (.int .u64 4294967296)))), .none⟩,
   ⟨(.some 9), (.cvt .u32 (.t 8)), .none⟩,
   ⟨(.some 10), (.call0 55 [(.t 9)]), .none⟩,
   ⟨(.some 11), (.app 1 1 (.t 6) (.t 10)), .none⟩,
   ⟨(.some 2), (.mov (.t 11)), .none⟩])
 .ret)
def c56 : PFun := ⟨
 (.seq (.region [⟨(.some 2), (.mov (.c (.full []))), .none⟩])
 c56_0),
 1, 12, [(.tmp 2)]⟩

/-- prompter/prompterref01.Text -/
abbrev c57_3 : PCode :=
 (.region [⟨(.some 13), (.mov (.t 3)), .none⟩,
   ⟨(.some 14), (.bsl 1 [(.c (.d (.int .u8 0)))]), .none⟩,
   ⟨(.some 15), (.app 1 1 (.t 13) (.t 14)), .none⟩,
   ⟨(.some 3), (.mov (.t 15)), .none⟩])
abbrev c57_2 : PCode :=
 (.cond (.t 12)
  c57_3
  .skip)
abbrev c57_4 : PCode :=
 (.keep [3] (.seq (.region [⟨(.some 16), (.mov (.t 3)), .none⟩,
   ⟨(.some 2), (.mov (.t 16)), .none⟩])
 .ret))
abbrev c57_1 : PCode :=
 (.keep [0, 3] (.seq (.seq (.region [⟨(.some 9), (.mov (.t 0)), .none⟩,
   ⟨(.some 10), (.lenS (.t 9)), .none⟩,
   ⟨(.some 11), (.bin .rem (.t 10) (.c (.d (.int .i64 2)))), .none⟩,
   ⟨(.some 12), (.bin .eql (.t 11) (.c (.d (.int .i64 1)))), .none⟩])
 c57_2)
 c57_4))
abbrev c57_0 : PCode :=
 (.seq (.region [⟨(.some 4), (.mov (.t 0)), .none⟩,
   ⟨(.some 5), (.lenS (.t 4)), .none⟩,
   ⟨(.some 6), (.call0 58 [(.t 5)]), .none⟩,
   ⟨(.some 7), (.mov (.t 0)), .none⟩,
   ⟨(.some 8), (.appS (.t 6) (.t 7)), .none⟩,
   ⟨(.some 3), (.mov (.t 8)), .none⟩])
 c57_1)
def c57 : PFun := ⟨
 (.seq (.region [⟨(.some 2), (.mov (.c (.full []))), .none⟩])
 c57_0),
 1, 17, [(.tmp 2)]⟩

/-- prompter/prompterref01.Word -/
abbrev c58_0 : PCode :=
 (.seq (.region [⟨(.some 3), (.mov (.t 0)), .none⟩,
   ⟨(.some 4), (.bin .quo (.t 3) (.c (.d (.int .i64 256)))), .none⟩,
   ⟨(.some 5), (.bin .rem (.t 4) (.c (.d (.int .i64 256)))), .none⟩,
   ⟨(.some 6), (.cvt .u8 (.t 5)), .none⟩,
   ⟨(.some 7), (.mov (.t 0)), .none⟩,
   ⟨(.some 8), (.bin .rem (.t 7) (.c (.d (.int .i64 256)))), .none⟩,
   ⟨(.some 9), (.cvt .u8 (.t 8)), .none⟩,
   ⟨(.some 10), (.bsl 1 [(.t 6), (.t 9)]), .none⟩,
   ⟨(.some 2), (.mov (.t 10)), .none⟩])
 .ret)
def c58 : PFun := ⟨
 (.seq (.region [⟨(.some 2), (.mov (.c (.full []))), .none⟩])
 c58_0),
 1, 11, [(.tmp 2)]⟩

/-- prompter/prompterref08.Put -/
abbrev c31_2 : PCode :=
 (.seq (.region [⟨(.some 11), (.faddr 0 (.t 3)), .none⟩,
   ⟨(.some 12), (.load .false 1 (.t 11) .false), .none⟩,
   ⟨(.some 13), (.cvt .u32 (.t 12)), .none⟩,
   ⟨(.some 14), (.call0 55 [(.t 13)]), .none⟩,
   ⟨(.some 4), (.mov (.t 14)), .none⟩])
 .ret)
abbrev c31_1 : PCode :=
 (.cond (.t 10)
  c31_2
  .skip)
abbrev c31_5 : PCode :=
 (.seq (.region [⟨(.some 18), (.faddr 1 (.t 3)), .none⟩,
   ⟨(.some 19), (.load .false 1 (.t 18) .false), .none⟩,
   ⟨(.some 20), (.call0 41 [(.t 19)]), .none⟩,
   ⟨(.some 21), (.call0 56 [(.t 20)]), .none⟩,
   ⟨(.some 4), (.mov (.t 21)), .none⟩])
 .ret)
abbrev c31_4 : PCode :=
 (.cond (.t 17)
  c31_5
  .skip)
abbrev c31_8 : PCode :=
 (.seq (.region [⟨(.some 25), (.faddr 2 (.t 3)), .none⟩,
   ⟨(.some 26), (.load .false 1 (.t 25) .false), .none⟩,
   ⟨(.some 27), (.call0 57 [(.t 26)]), .none⟩,
   ⟨(.some 4), (.mov (.t 27)), .none⟩])
 .ret)
abbrev c31_7 : PCode :=
 (.cond (.t 24)
  c31_8
  .skip)
abbrev c31_16 : PCode :=
 (.exit 0)
abbrev c31_15 : PCode :=
 (.cond (.t 39)
  .skip
  c31_16)
abbrev c31_18 : PCode :=
 (.region [⟨(.some 40), (.mov (.t 6)), .none⟩,
   ⟨(.some 41), (.bin .add (.t 40) (.c (.d (.int .i64 1)))), .none⟩,
   ⟨(.some 6), (.mov (.t 41)), .none⟩])
abbrev c31_17 : PCode :=
 (.seq (.block 1 (.region [⟨(.some 42), (.mov (.t 5)), .none⟩,
   ⟨(.some 43), (.faddr 3 (.t 2)), .none⟩,
   ⟨(.some 44), (.load .false 1 (.t 43) .false), .none⟩,
   ⟨(.some 45), (.iaddr 4 (.t 44) (.c (.d (.int .i64 0)))), .none⟩,
   ⟨(.some 46), (.load .true 4 (.t 45) .false), .none⟩,
   ⟨(.some 47), (.faddr 3 (.t 3)), .none⟩,
   ⟨(.some 48), (.load .false 1 (.t 47) .false), .none⟩,
   ⟨(.some 49), (.mov (.t 6)), .none⟩,
   ⟨(.some 50), (.iaddr 4 (.t 48) (.t 49)), .none⟩,
   ⟨(.some 51), (.load .true 4 (.t 50) .false), .none⟩,
   ⟨(.some 52), (.call0 31 [(.t 46), (.t 51)]), .none⟩,
   ⟨(.some 53), (.app 1 1 (.t 42) (.t 52)), .none⟩,
   ⟨(.some 5), (.mov (.t 53)), .none⟩]))
 c31_18)
abbrev c31_14 : PCode :=
 (.block 0 (.loop (.some [5, 6, 2, 3]) (.seq (.seq (.region [⟨(.some 35), (.mov (.t 6)), .none⟩,
   ⟨(.some 36), (.faddr 3 (.t 3)), .none⟩,
   ⟨(.some 37), (.load .false 1 (.t 36) .false), .none⟩,
   ⟨(.some 38), (.len (.t 37)), .none⟩,
   ⟨(.some 39), (.bin .lss (.t 35) (.t 38)), .none⟩])
 c31_15)
 c31_17)))
abbrev c31_19 : PCode :=
 (.seq (.region [⟨(.some 54), (.mov (.t 5)), .none⟩,
   ⟨(.some 4), (.mov (.t 54)), .none⟩])
 .ret)
abbrev c31_13 : PCode :=
 (.keep [2, 3, 5] (.seq (.seq (.region [⟨(.some 6), (.mov (.c (.d (.int .i64 0)))), .none⟩])
 c31_14)
 c31_19))
abbrev c31_12 : PCode :=
 (.seq (.region [⟨(.some 31), (.faddr 3 (.t 3)), .none⟩,
   ⟨(.some 32), (.load .false 1 (.t 31) .false), .none⟩,
   ⟨(.some 33), (.len (.t 32)), .none⟩,
   ⟨(.some 34), (.call0 58 [(.t 33)]), .none⟩,
   ⟨(.some 5), (.mov (.t 34)), .none⟩])
 c31_13)
abbrev c31_11 : PCode :=
 (.cond (.t 30)
  c31_12
  .skip)
abbrev c31_25 : PCode :=
 (.exit 2)
abbrev c31_24 : PCode :=
 (.cond (.t 62)
  .skip
  c31_25)
abbrev c31_27 : PCode :=
 (.region [⟨(.some 63), (.mov (.t 7)), .none⟩,
   ⟨(.some 64), (.bin .add (.t 63) (.c (.d (.int .i64 1)))), .none⟩,
   ⟨(.some 7), (.mov (.t 64)), .none⟩])
abbrev c31_26 : PCode :=
 (.seq (.block 3 (.region [⟨(.some 65), (.mov (.t 5)), .none⟩,
   ⟨(.some 66), (.faddr 3 (.t 2)), .none⟩,
   ⟨(.some 67), (.load .false 1 (.t 66) .false), .none⟩,
   ⟨(.some 68), (.mov (.t 7)), .none⟩,
   ⟨(.some 69), (.iaddr 4 (.t 67) (.t 68)), .none⟩,
   ⟨(.some 70), (.load .true 4 (.t 69) .false), .none⟩,
   ⟨(.some 71), (.faddr 3 (.t 3)), .none⟩,
   ⟨(.some 72), (.load .false 1 (.t 71) .false), .none⟩,
   ⟨(.some 73), (.mov (.t 7)), .none⟩,
   ⟨(.some 74), (.iaddr 4 (.t 72) (.t 73)), .none⟩,
   ⟨(.some 75), (.load .true 4 (.t 74) .false), .none⟩,
   ⟨(.some 76), (.call0 31 [(.t 70), (.t 75)]), .none⟩,
   ⟨(.some 77), (.app 1 1 (.t 65) (.t 76)), .none⟩,
   ⟨(.some 5), (.mov (.t 77)), .none⟩]))
 c31_27)
abbrev c31_23 : PCode :=
 (.block 2 (.loop (.some [5, 7, 2, 3]) (.seq (.seq (.region [⟨(.some 58), (.mov (.t 7)), .none⟩,
   ⟨(.some 59), (.faddr 3 (.t 3)), .none⟩,
   ⟨(.some 60), (.load .false 1 (.t 59) .false), .none⟩,
   ⟨(.some 61), (.len (.t 60)), .none⟩,
   ⟨(.some 62), (.bin .lss (.t 58) (.t 61)), .none⟩])
 c31_24)
 c31_26)))
abbrev c31_28 : PCode :=
 (.seq (.region [⟨(.some 78), (.mov (.t 5)), .none⟩,
   ⟨(.some 4), (.mov (.t 78)), .none⟩])
 .ret)
abbrev c31_22 : PCode :=
 (.seq (.seq (.region [⟨(.some 7), (.mov (.c (.d (.int .i64 0)))), .none⟩])
 c31_23)
 c31_28)
abbrev c31_21 : PCode :=
 (.cond (.t 57)
  c31_22
  .skip)
abbrev c31_32 : PCode :=
 (.region [⟨(.some 85), (.mov (.t 5)), .none⟩,
   ⟨(.some 86), (.faddr 3 (.t 2)), .none⟩,
   ⟨(.some 87), (.load .false 1 (.t 86) .false), .none⟩,
   ⟨(.some 88), (.faddr 0 (.t 3)), .none⟩,
   ⟨(.some 89), (.load .false 1 (.t 88) .false), .none⟩,
   ⟨(.some 90), (.iaddr 4 (.t 87) (.t 89)), .none⟩,
   ⟨(.some 91), (.load .true 4 (.t 90) .false), .none⟩,
   ⟨(.some 92), (.faddr 3 (.t 3)), .none⟩,
   ⟨(.some 93), (.load .false 1 (.t 92) .false), .none⟩,
   ⟨(.some 94), (.iaddr 4 (.t 93) (.c (.d (.int .i64 0)))), .none⟩,
   ⟨(.some 95), (.load .true 4 (.t 94) .false), .none⟩,
   ⟨(.some 96), (.call0 31 [(.t 91), (.t 95)]), .none⟩,
   ⟨(.some 97), (.app 1 1 (.t 85) (.t 96)), .none⟩,
   ⟨(.some 5), (.mov (.t 97)), .none⟩])
abbrev c31_31 : PCode :=
 (.cond (.t 84)
  c31_32
  .skip)
abbrev c31_33 : PCode :=
 (.keep [5] (.seq (.region [⟨(.some 98), (.mov (.t 5)), .none⟩,
   ⟨(.some 4), (.mov (.t 98)), .none⟩])
 .ret))
abbrev c31_30 : PCode :=
 (.keep [2, 3, 5] (.seq (.seq (.region [⟨(.some 82), (.faddr 0 (.t 2)), .none⟩,
   ⟨(.some 83), (.load .false 1 (.t 82) .false), .none⟩,
   ⟨(.some 84), (.bin .eql (.t 83) (.c (.d (.int .i64 8)))), .none⟩])
 c31_31)
 c31_33))
abbrev c31_29 : PCode :=
 (.seq (.region [⟨(.some 79), (.faddr 0 (.t 3)), .none⟩,
   ⟨(.some 80), (.load .false 1 (.t 79) .false), .none⟩,
   ⟨(.some 81), (.call0 58 [(.t 80)]), .none⟩,
   ⟨(.some 5), (.mov (.t 81)), .none⟩])
 c31_30)
abbrev c31_20 : PCode :=
 (.seq (.seq (.region [⟨(.some 55), (.faddr 0 (.t 2)), .none⟩,
   ⟨(.some 56), (.load .false 1 (.t 55) .false), .none⟩,
   ⟨(.some 57), (.bin .eql (.t 56) (.c (.d (.int .i64 6)))), .none⟩])
 c31_21)
 c31_29)
abbrev c31_10 : PCode :=
 (.seq (.seq (.region [⟨(.some 28), (.faddr 0 (.t 2)), .none⟩,
   ⟨(.some 29), (.load .false 1 (.t 28) .false), .none⟩,
   ⟨(.some 30), (.bin .eql (.t 29) (.c (.d (.int .i64 5)))), .none⟩])
 c31_11)
 c31_20)
abbrev c31_9 : PCode :=
 (.keep [2, 3] (.seq (.region [⟨(.some 5), (.mov (.c (.full []))), .none⟩])
 c31_10))
abbrev c31_6 : PCode :=
 (.keep [2, 3] (.seq (.seq (.region [⟨(.some 22), (.faddr 0 (.t 2)), .none⟩,
   ⟨(.some 23), (.load .false 1 (.t 22) .false), .none⟩,
   ⟨(.some 24), (.bin .eql (.t 23) (.c (.d (.int .i64 4)))), .none⟩])
 c31_7)
 c31_9))
abbrev c31_3 : PCode :=
 (.keep [2, 3] (.seq (.seq (.region [⟨(.some 15), (.faddr 0 (.t 2)), .none⟩,
   ⟨(.some 16), (.load .false 1 (.t 15) .false), .none⟩,
   ⟨(.some 17), (.bin .eql (.t 16) (.c (.d (.int .i64 3)))), .none⟩])
 c31_4)
 c31_6))
abbrev c31_0 : PCode :=
 (.keep [2, 3] (.seq (.seq (.region [⟨(.some 8), (.faddr 0 (.t 2)), .none⟩,
   ⟨(.some 9), (.load .false 1 (.t 8) .false), .none⟩,
   ⟨(.some 10), (.bin .eql (.t 9) (.c (.d (.int .i64 2)))), .none⟩])
 c31_1)
 c31_3))
def c31 : PFun := ⟨
 (.seq (.region [⟨(.some 2), (.box 4 (.t 0)), .none⟩,
   ⟨(.some 3), (.box 4 (.t 1)), .none⟩,
   ⟨(.some 4), (.mov (.c (.full []))), .none⟩])
 c31_0),
 2, 99, [(.tmp 4)]⟩

theorem e55 : entered Try.prog 55 = true := by kernel_rfl
theorem k55 : compFun Try.prog (fun _ => 0) 55 = some c55.er := by kernel_rfl
theorem e56 : entered Try.prog 56 = true := by kernel_rfl
theorem k56 : compFun Try.prog (fun _ => 0) 56 = some c56.er := by kernel_rfl
theorem e57 : entered Try.prog 57 = true := by kernel_rfl
theorem k57 : compFun Try.prog (fun _ => 0) 57 = some c57.er := by kernel_rfl
theorem e58 : entered Try.prog 58 = true := by kernel_rfl
theorem k58 : compFun Try.prog (fun _ => 0) 58 = some c58.er := by kernel_rfl
theorem e31 : entered Try.prog 31 = true := by kernel_rfl
theorem k31 : compFun Try.prog (fun _ => 0) 31 = some c31.er := by kernel_rfl


theorem refWord (n : Int) (hn : 0 ≤ n ∧ n ≤ 9223372036854775807) : CL (PCalls Try.prog GG) 58 [.d (.int .i64 n)] [] (fun a : AV => a) (fun a => [.vec a (rowsB (wordB n)) 1]) := by
  refine ⟨Sat.vecs1 _ _ _, ?_⟩
  have e1 : IntKind.u8.wrap ((IntKind.i64.wrap (n.tdiv 256)).tmod 256) = n / 256 % 256 := by
    rw [Int.tdiv_eq_ediv_of_nonneg hn.1, IntWalk.i64_in _ (by omega), Int.tmod_eq_emod_of_nonneg (by omega), IntKind.wrap_u8]; omega
  have e2 : IntKind.u8.wrap (n.tmod 256) = n % 256 := by
    rw [Int.tmod_eq_emod_of_nonneg hn.1, IntKind.wrap_u8]; omega
  intro st t hL; refine pcalls_of k58 e58 (of_decide_eq_true rfl) ?_; dsimp only [c58]; generalize hQ : pfin _ _ = Q
  refine gor hL ?_; (repeat (clear hL; intro t hL; refine gor hL ?_))
  refine gnm ?_; rw [e1, e2]
  replace hL := hL.full (rowsB (wordB n)) 1
  rw [← hQ]
  exact pfinK (.full (rowsB (wordB n))) rfl (.inl rfl) hL
theorem refLong (n : Int) (hn : 0 ≤ n ∧ n ≤ 4294967295) : CL (PCalls Try.prog GG) 55 [.d (.int .u32 n)] [] (fun a : AV => a) (fun a => [.vec a (rowsB (longB n)) 1]) := by
  refine ⟨Sat.vecs1 _ _ _, ?_⟩
  have h1 := refWord (n / 65536) (by omega)
  have h2 := refWord (n % 65536) (by omega)
  have e1 : IntKind.i64.wrap (IntKind.u32.wrap (n.tdiv 65536)) = n / 65536 := by
    rw [Int.tdiv_eq_ediv_of_nonneg hn.1, IntWalk.u32_in _ (by omega), IntWalk.i64_in _ (by omega)]
  have e2 : IntKind.i64.wrap (n.tmod 65536) = n % 65536 := by
    rw [Int.tmod_eq_emod_of_nonneg hn.1, IntWalk.i64_in _ (by omega)]
  intro st t hL; refine pcalls_of k55 e55 (of_decide_eq_true rfl) ?_; dsimp only [c55]; generalize hQ : pfin _ _ = Q
  refine gor hL ?_; (repeat (clear hL; intro t hL; refine gor hL ?_))
  refine gnm ?_; rw [e1]
  refine po_callK hL (h1) ?_; clear hL; intro a t hL; have fa := hL.vk a; obtain ⟨fa_r, fa_w, fa_w1, fa_c, fa_s, fa_d⟩ := id fa
  refine gor hL ?_; (repeat (clear hL; intro t hL; refine gor hL ?_))
  refine gnm ?_; rw [e2]
  refine po_callK hL (h2) ?_; clear hL; intro b t hL; have fb := hL.vk b; obtain ⟨fb_r, fb_w, fb_w1, fb_c, fb_s, fb_d⟩ := id fb
  refine gor hL ?_; (repeat (clear hL; intro t hL; refine gor hL ?_))
  refine po_appA (v := a) (hn := rowsB_len _) hL (rowsB_len _) ?_ ?_ (hx := rfl) (hy := fb_r)
  · simp [wordB_len]
  clear hL; intro c t fc hL
  rw [rowsB_app] at hL fc
  obtain ⟨fc_r, fc_w, fc_w1, fc_c, fc_s, fc_d⟩ := id fc
  refine gor hL ?_; (repeat (clear hL; intro t hL; refine gor hL ?_))
  rw [← hQ]
  exact pfinK c rfl (.inl rfl) hL
theorem refQuad (n : Int) (hn : 0 ≤ n ∧ n ≤ 18446744073709551615) : CL (PCalls Try.prog GG) 56 [.d (.int .u64 n)] [] (fun a : AV => a) (fun a => [.vec a (rowsB (quadB n)) 1]) := by
  refine ⟨Sat.vecs1 _ _ _, ?_⟩
  have h1 := refLong (n / 4294967296) (by omega)
  have h2 := refLong (n % 4294967296) (by omega)
  have e1 : IntKind.u32.wrap (IntKind.u64.wrap (n.tdiv 4294967296)) = n / 4294967296 := by
    rw [Int.tdiv_eq_ediv_of_nonneg hn.1, IntWalk.u64_in _ (by omega), IntWalk.u32_in _ (by omega)]
  have e2 : IntKind.u32.wrap (n.tmod 4294967296) = n % 4294967296 := by
    rw [Int.tmod_eq_emod_of_nonneg hn.1, IntWalk.u32_in _ (by omega)]
  intro st t hL; refine pcalls_of k56 e56 (of_decide_eq_true rfl) ?_; dsimp only [c56]; generalize hQ : pfin _ _ = Q
  refine gor hL ?_; (repeat (clear hL; intro t hL; refine gor hL ?_))
  refine gnm ?_; rw [e1]
  refine po_callK hL (h1) ?_; clear hL; intro a t hL; have fa := hL.vk a; obtain ⟨fa_r, fa_w, fa_w1, fa_c, fa_s, fa_d⟩ := id fa
  refine gor hL ?_; (repeat (clear hL; intro t hL; refine gor hL ?_))
  refine gnm ?_; rw [e2]
  refine po_callK hL (h2) ?_; clear hL; intro b t hL; have fb := hL.vk b; obtain ⟨fb_r, fb_w, fb_w1, fb_c, fb_s, fb_d⟩ := id fb
  refine gor hL ?_; (repeat (clear hL; intro t hL; refine gor hL ?_))
  refine po_appA (v := a) (hn := rowsB_len _) hL (rowsB_len _) ?_ ?_ (hx := rfl) (hy := fb_r)
  · simp [longB_len]
  clear hL; intro c t fc hL
  rw [rowsB_app] at hL fc
  obtain ⟨fc_r, fc_w, fc_w1, fc_c, fc_s, fc_d⟩ := id fc
  refine gor hL ?_; (repeat (clear hL; intro t hL; refine gor hL ?_))
  rw [← hQ]
  exact pfinK c rfl (.inl rfl) hL
theorem refText (s : ByteArray) (hs : s.size ≤ 65535) : CL (PCalls Try.prog GG) 57 [.d (.str s)] [] (fun a : AV => a) (fun a => [.vec a (rowsB (textB s)) 1]) := by
  refine ⟨Sat.vecs1 _ _ _, ?_⟩
  have h1 := refWord s.size (by omega)
  intro st t hL; refine pcalls_of k57 e57 (of_decide_eq_true rfl) ?_; dsimp only [c57]; generalize hQ : pfin _ _ = Q
  refine gor hL ?_; (repeat (clear hL; intro t hL; refine gor hL ?_))
  refine po_callK hL (h1) ?_; clear hL; intro a t hL; have fa := hL.vk a; obtain ⟨fa_r, fa_w, fa_w1, fa_c, fa_s, fa_d⟩ := id fa
  refine gor hL ?_; (repeat (clear hL; intro t hL; refine gor hL ?_))
  refine po_appSL (v := a) (rows := rowsB (wordB s.size)) (z := s) hL (rowsB_len _) ?_ ?_
  · rw [List.length_map, wordB_len]; omega
  clear hL; intro b t fb hL
  rw [rowsB_str, rowsB_app] at hL fb
  obtain ⟨fb_r, fb_w, fb_w1, fb_c, fb_s, fb_d⟩ := id fb
  refine gor hL ?_; (repeat (clear hL; intro t hL; refine gor hL ?_))
  have e2 : ((s.size : Int).tmod 2 == 1) = decide (s.size % 2 = 1) := by
    rw [IntWalk.rem_in _ _ (by omega), Bool.eq_iff_iff]; simp; omega
  refine gor hL ?_; (repeat (clear hL; intro t hL; refine gor hL ?_)); (repeat (refine pseqk ?_; refine gor hL ?_; (repeat (clear hL; intro t hL; refine gor hL ?_))))
  refine gnm ?_; rw [e2]
  refine pcond_b rfl (fun h => ?_) (fun h => ?_)
  · have h' : s.size % 2 = 1 := by simpa using h
    rw [textB, if_pos h'] at hQ
    refine gor hL ?_; (repeat (clear hL; intro t hL; refine gor hL ?_))
    refine po_appA (v := b) (hn := rowsB_len [0]) hL (rowsB_len _) ?_ ?_ (hx := rfl)
    · simp [strB_len, wordB_len]; omega
    clear hL; intro c t fc hL
    rw [rowsB_app] at hL fc
    obtain ⟨fc_r, fc_w, fc_w1, fc_c, fc_s, fc_d⟩ := id fc
    refine gor hL ?_; (repeat (clear hL; intro t hL; refine gor hL ?_)); (repeat (refine pseqk ?_; refine gor hL ?_; (repeat (clear hL; intro t hL; refine gor hL ?_))))
    rw [← hQ]
    exact pfinK c rfl (.inl rfl) hL
  · have h' : ¬ s.size % 2 = 1 := by simpa using h
    rw [textB, if_neg h', List.append_nil] at hQ
    refine gor hL ?_; (repeat (clear hL; intro t hL; refine gor hL ?_)); (repeat (refine pseqk ?_; refine gor hL ?_; (repeat (clear hL; intro t hL; refine gor hL ?_))))
    rw [← hQ]
    exact pfinK b rfl (.inl rfl) hL
end Go.Pv
