/- Functions of the program, by value. No condition. -/
import Derived.Test.YtdggkhnelmonkaaDoorK1
import Derived.Test.YtdggkhnelmonkaaDoorD1
namespace Go.Pv
open Go.Proofs
set_option maxRecDepth 100000
set_option maxHeartbeats 4000000

/-- prompter/kind.names -/
abbrev c62_2 : PCode :=
 (.seq (.region [⟨(.some 2), (.mov (.c (.d (.int .i64 7)))), .none⟩])
 .ret)
abbrev c62_1 : PCode :=
 (.cond (.t 12)
  c62_2
  .skip)
abbrev c62_8 : PCode :=
 (.seq (.region [⟨(.some 2), (.mov (.c (.d (.int .i64 8)))), .none⟩])
 .ret)
abbrev c62_7 : PCode :=
 (.cond (.t 22)
  c62_8
  .skip)
abbrev c62_11 : PCode :=
 (.seq (.region [⟨(.some 2), (.mov (.c (.d (.int .i64 9)))), .none⟩])
 .ret)
abbrev c62_10 : PCode :=
 (.cond (.t 27)
  c62_11
  .skip)
abbrev c62_9 : PCode :=
 (.keep [0, 3, 4, 13, 14, 15] (.seq (.region [⟨(.some 23), (.mov (.t 0)), .none⟩,
   ⟨(.some 24), (.mov (.t 3)), .none⟩,
   ⟨(.some 25), (.slc 1 (.t 23) .none (.some (.t 24))), .none⟩,
   ⟨(.some 26), (.mov (.t 4)), .none⟩,
   ⟨(.some 27), (.callp 36 [(.t 25), (.t 26)]), .none⟩])
 c62_10))
abbrev c62_6 : PCode :=
 (.keep [0, 3, 4, 13, 14, 15] (.seq (.seq (.region [⟨(.some 20), (.mov (.t 4)), .none⟩,
   ⟨(.some 21), (.callp 33 [(.t 20)]), .none⟩,
   ⟨(.some 22), (.not (.t 21)), .none⟩])
 c62_7)
 c62_9))
abbrev c62_5 : PCode :=
 (.block 1 (.seq (.region [⟨(.some 17), (.mov (.t 15)), .none⟩,
   ⟨(.some 18), (.iaddr 1 (.t 13) (.t 15)), .none⟩,
   ⟨(.some 19), (.load .false 1 (.t 18) .false), .none⟩,
   ⟨(.some 3), (.mov (.t 17)), .none⟩,
   ⟨(.some 4), (.mov (.t 19)), .none⟩])
 c62_6))
abbrev c62_4 : PCode :=
 (.keep [0, 13, 14, 15] (.block 0 (.loop (.some [0, 13, 14, 15]) (.seq (.region [⟨(.some 16), (.bin .lss (.t 15) (.t 14)), .none⟩])
 (.seq (.cond (.t 16)
  .skip
  (.exit 0))
 (.seq c62_5
 (.region [⟨(.some 28), (.bin .add (.t 15) (.c (.d (.int .i64 1)))), .none⟩,
   ⟨(.some 15), (.mov (.t 28)), .none⟩])))))))
abbrev c62_12 : PCode :=
 (.seq (.region [⟨(.some 2), (.mov (.c (.d (.int .i64 0)))), .none⟩])
 .ret)
abbrev c62_3 : PCode :=
 (.keep [0] (.seq (.seq (.region [⟨(.some 13), (.mov (.t 0)), .none⟩,
   ⟨(.some 14), (.len (.t 13)), .none⟩,
   ⟨(.some 15), (.mov (.c (.d (.int .i64 0)))), .none⟩])
 c62_4)
 c62_12))
abbrev c62_0 : PCode :=
 (.seq (.seq (.region [⟨(.some 5), (.mov (.t 0)), .none⟩,
   ⟨(.some 6), (.len (.t 5)), .none⟩,
   ⟨(.some 7), (.bin .lss (.t 6) (.c (.d (.int .i64 1)))), .none⟩,
   ⟨(.some 8), (.mov (.t 7)), .none⟩,
   ⟨(.some 9), (.mov (.t 0)), (.some (8, .false))⟩,
   ⟨(.some 10), (.len (.t 9)), (.some (8, .false))⟩,
   ⟨(.some 11), (.bin .gtr (.t 10) (.c (.d (.int .i64 12)))), (.some (8, .false))⟩,
   ⟨(.some 12), (.pick (.t 8) (.c (.d (.bool .true))) (.t 11)), .none⟩])
 c62_1)
 c62_3)
def c62 : PFun := ⟨
 (.seq (.region [⟨(.some 2), (.mov (.c (.d (.int .i64 0)))), .none⟩])
 c62_0),
 1, 29, [(.tmp 2)]⟩

/-- (prompter/kind.Type).check -/
abbrev c37_2 : PCode :=
 (.seq (.region [⟨(.some 6), (.mov (.c (.d (.int .i64 5)))), .none⟩])
 .ret)
abbrev c37_1 : PCode :=
 (.cond (.t 19)
  c37_2
  .skip)
abbrev c37_6 : PCode :=
 (.seq (.region [⟨(.some 6), (.mov (.c (.d (.int .i64 2)))), .none⟩])
 .ret)
abbrev c37_5 : PCode :=
 (.cond (.t 47)
  c37_6
  .skip)
abbrev c37_11 : PCode :=
 (.region [⟨(.some 8), (.mov (.c (.d (.int .i64 1)))), .none⟩])
abbrev c37_14 : PCode :=
 (.region [⟨(.some 54), (.bin .eql (.t 49) (.c (.d (.int .u8 8)))), .none⟩,
   ⟨(.some 52), (.mov (.t 54)), .none⟩])
abbrev c37_13 : PCode :=
 (.cond (.t 52)
  .skip
  c37_14)
abbrev c37_16 : PCode :=
 (.region [⟨(.some 55), (.faddr 2 (.t 3)), .none⟩,
   ⟨(.some 56), (.load .false 1 (.t 55) .false), .none⟩,
   ⟨(.some 57), (.len (.t 56)), .none⟩,
   ⟨(.some 8), (.mov (.t 57)), .none⟩])
abbrev c37_15 : PCode :=
 (.keep [1, 2, 3, 8, 52] (.cond (.t 52)
  c37_16
  .skip))
abbrev c37_12 : PCode :=
 (.seq (.seq (.region [⟨(.some 53), (.bin .eql (.t 49) (.c (.d (.int .u8 6)))), .none⟩,
   ⟨(.some 52), (.mov (.t 53)), .none⟩])
 c37_13)
 c37_15)
abbrev c37_10 : PCode :=
 (.cond (.t 50)
  c37_11
  c37_12)
abbrev c37_9 : PCode :=
 (.block 0 (.seq (.region [⟨(.some 51), (.bin .eql (.t 49) (.c (.d (.int .u8 5)))), .none⟩,
   ⟨(.some 50), (.mov (.t 51)), .none⟩])
 c37_10))
abbrev c37_19 : PCode :=
 (.seq (.region [⟨(.some 6), (.mov (.c (.d (.int .i64 4)))), .none⟩])
 .ret)
abbrev c37_18 : PCode :=
 (.cond (.t 84)
  c37_19
  .skip)
abbrev c37_25 : PCode :=
 (.seq (.region [⟨(.some 98), (.mov (.t 9)), .none⟩,
   ⟨(.some 6), (.mov (.t 98)), .none⟩])
 .ret)
abbrev c37_24 : PCode :=
 (.cond (.t 97)
  c37_25
  .skip)
abbrev c37_23 : PCode :=
 (.keep [1, 2, 3, 9] (.seq (.region [⟨(.some 96), (.mov (.t 9)), .none⟩,
   ⟨(.some 97), (.bin .neq (.t 96) (.c (.d (.int .i64 0)))), .none⟩])
 c37_24))
abbrev c37_22 : PCode :=
 (.seq (.region [⟨(.some 93), (.faddr 2 (.t 3)), .none⟩,
   ⟨(.some 94), (.load .false 1 (.t 93) .false), .none⟩,
   ⟨(.some 95), (.callp 62 [(.t 94)]), .none⟩,
   ⟨(.some 9), (.mov (.t 95)), .none⟩])
 c37_23)
abbrev c37_21 : PCode :=
 (.cond (.t 92)
  c37_22
  .skip)
abbrev c37_28 : PCode :=
 (.seq (.region [⟨(.some 6), (.mov (.c (.d (.int .i64 10)))), .none⟩])
 .ret)
abbrev c37_27 : PCode :=
 (.cond (.t 110)
  c37_28
  .skip)
abbrev c37_35 : PCode :=
 (.seq (.region [⟨(.some 125), (.mov (.t 12)), .none⟩,
   ⟨(.some 6), (.mov (.t 125)), .none⟩])
 .ret)
abbrev c37_34 : PCode :=
 (.cond (.t 124)
  c37_35
  .skip)
abbrev c37_33 : PCode :=
 (.keep [1, 2, 12, 112, 113, 114] (.seq (.region [⟨(.some 123), (.mov (.t 12)), .none⟩,
   ⟨(.some 124), (.bin .neq (.t 123) (.c (.d (.int .i64 0)))), .none⟩])
 c37_34))
abbrev c37_32 : PCode :=
 (.keep [1, 2, 11, 112, 113, 114] (.seq (.region [⟨(.some 118), (.load .true 4 (.t 11) .false), .none⟩,
   ⟨(.some 119), (.mov (.t 1)), .none⟩,
   ⟨(.some 120), (.bin .sub (.t 119) (.c (.d (.int .i64 1)))), .none⟩,
   ⟨(.some 121), (.mov (.t 2)), .none⟩,
   ⟨(.some 122), (.callp 37 [(.t 118), (.t 120), (.t 121)]), .none⟩,
   ⟨(.some 12), (.mov (.t 122)), .none⟩])
 c37_33))
abbrev c37_31 : PCode :=
 (.block 2 (.seq (.region [⟨(.some 116), (.iaddr 4 (.t 112) (.t 114)), .none⟩,
   ⟨(.some 117), (.load .true 4 (.t 116) .false), .none⟩,
   ⟨(.some 11), (.alloc [(.d (.int .u8 0)), (.d (.int .i64 0)), (.full []), (.full [])]), .none⟩,
   ⟨.none, (.store 4 (.t 11) (.t 117)), .none⟩])
 c37_32))
abbrev c37_30 : PCode :=
 (.keep [1, 2, 112, 113, 114] (.block 1 (.loop (.some [1, 2, 112, 113, 114]) (.seq (.region [⟨(.some 115), (.bin .lss (.t 114) (.t 113)), .none⟩])
 (.seq (.cond (.t 115)
  .skip
  (.exit 1))
 (.seq c37_31
 (.region [⟨(.some 126), (.bin .add (.t 114) (.c (.d (.int .i64 1)))), .none⟩,
   ⟨(.some 114), (.mov (.t 126)), .none⟩])))))))
abbrev c37_36 : PCode :=
 (.seq (.region [⟨(.some 6), (.mov (.c (.d (.int .i64 0)))), .none⟩])
 .ret)
abbrev c37_29 : PCode :=
 (.keep [1, 2, 3] (.seq (.seq (.region [⟨(.some 111), (.faddr 3 (.t 3)), .none⟩,
   ⟨(.some 112), (.load .false 1 (.t 111) .false), .none⟩,
   ⟨(.some 113), (.len (.t 112)), .none⟩,
   ⟨(.some 114), (.mov (.c (.d (.int .i64 0)))), .none⟩])
 c37_30)
 c37_36))
abbrev c37_26 : PCode :=
 (.keep [1, 2, 3] (.seq (.seq (.region [⟨(.some 99), (.faddr 0 (.t 3)), .none⟩,
   ⟨(.some 100), (.load .false 1 (.t 99) .false), .none⟩,
   ⟨(.some 101), (.bin .eql (.t 100) (.c (.d (.int .u8 9)))), .none⟩,
   ⟨(.some 102), (.mov (.t 101)), .none⟩,
   ⟨(.some 103), (.mov (.t 2)), (.some (102, .true))⟩,
   ⟨(.some 104), (.faddr 2 (.t 3)), (.some (102, .true))⟩,
   ⟨(.some 105), (.load .false 1 (.t 104) .false), (.some (102, .true))⟩,
   ⟨(.some 106), (.iaddr 1 (.t 105) (.c (.d (.int .i64 0)))), (.some (102, .true))⟩,
   ⟨(.some 107), (.load .false 1 (.t 106) .false), (.some (102, .true))⟩,
   ⟨(.some 108), (.callp 36 [(.t 103), (.t 107)]), (.some (102, .true))⟩,
   ⟨(.some 109), (.not (.t 108)), (.some (102, .true))⟩,
   ⟨(.some 110), (.pick (.t 102) (.t 109) (.c (.d (.bool .false)))), .none⟩])
 c37_27)
 c37_29))
abbrev c37_20 : PCode :=
 (.keep [1, 2, 3] (.seq (.seq (.region [⟨(.some 85), (.faddr 0 (.t 3)), .none⟩,
   ⟨(.some 86), (.load .false 1 (.t 85) .false), .none⟩,
   ⟨(.some 87), (.bin .geq (.t 86) (.c (.d (.int .u8 6)))), .none⟩,
   ⟨(.some 88), (.mov (.t 87)), .none⟩,
   ⟨(.some 89), (.faddr 0 (.t 3)), (.some (88, .true))⟩,
   ⟨(.some 90), (.load .false 1 (.t 89) .false), (.some (88, .true))⟩,
   ⟨(.some 91), (.bin .leq (.t 90) (.c (.d (.int .u8 8)))), (.some (88, .true))⟩,
   ⟨(.some 92), (.pick (.t 88) (.t 91) (.c (.d (.bool .false)))), .none⟩])
 c37_21)
 c37_26))
abbrev c37_17 : PCode :=
 (.keep [1, 2, 3, 8] (.seq (.seq (.region [⟨(.some 58), (.faddr 3 (.t 3)), .none⟩,
   ⟨(.some 59), (.load .false 1 (.t 58) .false), .none⟩,
   ⟨(.some 60), (.len (.t 59)), .none⟩,
   ⟨(.some 61), (.mov (.t 8)), .none⟩,
   ⟨(.some 62), (.bin .neq (.t 60) (.t 61)), .none⟩,
   ⟨(.some 63), (.mov (.t 62)), .none⟩,
   ⟨(.some 64), (.faddr 0 (.t 3)), (.some (63, .false))⟩,
   ⟨(.some 65), (.load .false 1 (.t 64) .false), (.some (63, .false))⟩,
   ⟨(.some 66), (.bin .leq (.t 65) (.c (.d (.int .u8 5)))), (.some (63, .false))⟩,
   ⟨(.some 67), (.mov (.t 66)), (.some (63, .false))⟩,
   ⟨(.some 68), (.faddr 2 (.t 3)), (.some (67, .true))⟩,
   ⟨(.some 69), (.load .false 1 (.t 68) .false), (.some (67, .true))⟩,
   ⟨(.some 70), (.len (.t 69)), (.some (67, .true))⟩,
   ⟨(.some 71), (.bin .gtr (.t 70) (.c (.d (.int .i64 0)))), (.some (67, .true))⟩,
   ⟨(.some 72), (.pick (.t 67) (.t 71) (.c (.d (.bool .false)))), (.some (63, .false))⟩,
   ⟨(.some 73), (.pick (.t 63) (.c (.d (.bool .true))) (.t 72)), .none⟩,
   ⟨(.some 74), (.mov (.t 73)), .none⟩,
   ⟨(.some 75), (.faddr 0 (.t 3)), (.some (74, .false))⟩,
   ⟨(.some 76), (.load .false 1 (.t 75) .false), (.some (74, .false))⟩,
   ⟨(.some 77), (.bin .eql (.t 76) (.c (.d (.int .u8 9)))), (.some (74, .false))⟩,
   ⟨(.some 78), (.mov (.t 77)), (.some (74, .false))⟩,
   ⟨(.some 79), (.faddr 2 (.t 3)), (.some (78, .true))⟩,
   ⟨(.some 80), (.load .false 1 (.t 79) .false), (.some (78, .true))⟩,
   ⟨(.some 81), (.len (.t 80)), (.some (78, .true))⟩,
   ⟨(.some 82), (.bin .neq (.t 81) (.c (.d (.int .i64 1)))), (.some (78, .true))⟩,
   ⟨(.some 83), (.pick (.t 78) (.t 82) (.c (.d (.bool .false)))), (.some (74, .false))⟩,
   ⟨(.some 84), (.pick (.t 74) (.c (.d (.bool .true))) (.t 83)), .none⟩])
 c37_18)
 c37_20))
abbrev c37_8 : PCode :=
 (.seq (.seq (.region [⟨(.some 48), (.faddr 0 (.t 3)), .none⟩,
   ⟨(.some 49), (.load .false 1 (.t 48) .false), .none⟩])
 c37_9)
 c37_17)
abbrev c37_7 : PCode :=
 (.keep [1, 2, 3] (.seq (.region [⟨(.some 8), (.mov (.c (.d (.int .i64 0)))), .none⟩])
 c37_8))
abbrev c37_4 : PCode :=
 (.keep [1, 2, 3, 7] (.seq (.seq (.region [⟨(.some 28), (.mov (.t 7)), .none⟩,
   ⟨(.some 29), (.mov (.t 28)), .none⟩,
   ⟨(.some 30), (.faddr 1 (.t 3)), (.some (29, .true))⟩,
   ⟨(.some 31), (.load .false 1 (.t 30) .false), (.some (29, .true))⟩,
   ⟨(.some 32), (.bin .lss (.t 31) (.c (.d (.int .i64 1)))), (.some (29, .true))⟩,
   ⟨(.some 33), (.mov (.t 32)), (.some (29, .true))⟩,
   ⟨(.some 34), (.faddr 1 (.t 3)), (.some (33, .false))⟩,
   ⟨(.some 35), (.load .false 1 (.t 34) .false), (.some (33, .false))⟩,
   ⟨(.some 36), (.bin .gtr (.t 35) (.c (.d (.int .i64 60)))), (.some (33, .false))⟩,
   ⟨(.some 37), (.pick (.t 33) (.c (.d (.bool .true))) (.t 36)), (.some (29, .true))⟩,
   ⟨(.some 38), (.pick (.t 29) (.t 37) (.c (.d (.bool .false)))), .none⟩,
   ⟨(.some 39), (.mov (.t 38)), .none⟩,
   ⟨(.some 40), (.mov (.t 7)), (.some (39, .false))⟩,
   ⟨(.some 41), (.not (.t 40)), (.some (39, .false))⟩,
   ⟨(.some 42), (.mov (.t 41)), (.some (39, .false))⟩,
   ⟨(.some 43), (.faddr 1 (.t 3)), (.some (42, .true))⟩,
   ⟨(.some 44), (.load .false 1 (.t 43) .false), (.some (42, .true))⟩,
   ⟨(.some 45), (.bin .neq (.t 44) (.c (.d (.int .i64 0)))), (.some (42, .true))⟩,
   ⟨(.some 46), (.pick (.t 42) (.t 45) (.c (.d (.bool .false)))), (.some (39, .false))⟩,
   ⟨(.some 47), (.pick (.t 39) (.c (.d (.bool .true))) (.t 46)), .none⟩])
 c37_5)
 c37_7))
abbrev c37_3 : PCode :=
 (.keep [1, 2, 3] (.seq (.region [⟨(.some 20), (.faddr 0 (.t 3)), .none⟩,
   ⟨(.some 21), (.load .false 1 (.t 20) .false), .none⟩,
   ⟨(.some 22), (.bin .eql (.t 21) (.c (.d (.int .u8 4)))), .none⟩,
   ⟨(.some 23), (.mov (.t 22)), .none⟩,
   ⟨(.some 24), (.faddr 0 (.t 3)), (.some (23, .false))⟩,
   ⟨(.some 25), (.load .false 1 (.t 24) .false), (.some (23, .false))⟩,
   ⟨(.some 26), (.bin .eql (.t 25) (.c (.d (.int .u8 5)))), (.some (23, .false))⟩,
   ⟨(.some 27), (.pick (.t 23) (.c (.d (.bool .true))) (.t 26)), .none⟩,
   ⟨(.some 7), (.mov (.t 27)), .none⟩])
 c37_4))
abbrev c37_0 : PCode :=
 (.seq (.seq (.region [⟨(.some 13), (.faddr 0 (.t 3)), .none⟩,
   ⟨(.some 14), (.load .false 1 (.t 13) .false), .none⟩,
   ⟨(.some 15), (.bin .geq (.t 14) (.c (.d (.int .u8 10)))), .none⟩,
   ⟨(.some 16), (.mov (.t 15)), .none⟩,
   ⟨(.some 17), (.mov (.t 1)), (.some (16, .false))⟩,
   ⟨(.some 18), (.bin .lss (.t 17) (.c (.d (.int .i64 1)))), (.some (16, .false))⟩,
   ⟨(.some 19), (.pick (.t 16) (.c (.d (.bool .true))) (.t 18)), .none⟩])
 c37_1)
 c37_3)
def c37 : PFun := ⟨
 (.seq (.region [⟨(.some 3), (.box 4 (.t 0)), .none⟩,
   ⟨(.some 6), (.mov (.c (.d (.int .i64 0)))), .none⟩])
 c37_0),
 3, 127, [(.tmp 6)]⟩

theorem e62 : entered Tryd.prog 62 = true := by kernel_rfl
theorem k62 : compFun Tryd.prog (fun _ => 1) 62 = some c62.er := by kernel_rfl
theorem e37 : entered Tryd.prog 37 = true := by kernel_rfl
theorem k37 : compFun Tryd.prog (fun _ => 1) 37 = some c37.er := by kernel_rfl


theorem C62 (l : List ByteArray) (hl : fitS l) : Pure (PCalls Tryd.prog GK) 62 [.d (strs l)] (i64 (namesM l)) := by
  intro st
  refine pcalls_of k62 e62 (of_decide_eq_true rfl) ?_; dsimp only [c62]
  refine gor0 ?_
  refine pcond_b rfl (fun h => ?_) (fun h => ?_)
  · refine gor0 ?_
    refine pfin_pure ?_ (.refl _)
    simp only [Bool.or_eq_true, decide_eq_true_eq] at h
    rw [namesM, if_pos (by omega)]
    rfl
  simp only [Bool.or_eq_false_iff, decide_eq_false_iff_not] at h
  refine gor0 ?_
  refine prange l.length (by omega) (fun k => put (put (put (put (fun _ => .undef) (some 15) (i64 k)) (some 14) (i64 l.length)) (some 13) (.d (strs l))) (some 0) (.d (strs l))) (fun _ => st) (fun k => namesE l k = 0) rfl rfl rfl (fun k => rfl) (fun k => rfl) ?_ ?_
  · intro hI
    refine gor0 ?_
    refine pfin_pure ?_ (.refl _)
    rw [namesM, if_neg (by omega), hI]
    rfl
  · intro k hk hI
    have hg : l.getD k (bs []) = l[k] := by rw [List.getD_eq_getElem?_getD, List.getElem?_eq_getElem hk]; rfl
    refine pblock ?_
    refine gor0 ?_
    refine po rfl (iaddr_strs rfl rfl hk) ?_
    refine gor0 ?_
    refine po_callp rfl (C33 _ (Nat.lt_of_lt_of_le (hl.2 _ (List.getElem_mem hk)) (by decide))) ?_
    refine gor0 ?_
    refine pcond_b rfl (fun h1 => ?_) (fun h1 => ?_)
    · refine gor0 ?_
      refine pfin_pure ?_ (.refl _)
      rw [namesM, if_neg (by omega), namesE_stays (j := k + 1) ?_ _ (by omega)]
      · simp only [namesE, hI, hg]; simp at h1; simp [h1]; rfl
      · simp only [namesE, hI, hg]; simp at h1; simp [h1]
    · refine gor0 ?_
      refine po rfl (slc_rows (j := k) rfl rfl (by rw [len_srows]; omega)) ?_
      rw [show (srows l).take k = srows (l.take k) from List.map_take.symm]
      refine gor0 ?_
      refine po_callp rfl (C36 (l.take k) l[k] (by rw [List.length_take]; have := hl.1; omega)) ?_
      refine gor0 ?_
      refine pcond_b rfl (fun h2 => ?_) (fun h2 => ?_)
      · refine gor0 ?_
        refine pfin_pure ?_ (.refl _)
        rw [namesM, if_neg (by omega), namesE_stays (j := k + 1) ?_ _ (by omega)]
        · simp only [namesE, hI, hg]; simp at h1; simp [h1, h2]; rfl
        · simp only [namesE, hI, hg]; simp at h1; simp [h1, h2]
      · refine gor0 ?_
        ((repeat' (with_reducible apply And.intro)) <;> (try (first | trivial | rfl)))
        simp only [namesE, hI, hg]; simp at h1; simp [h1, h2]

theorem C37 (t : KT) : ∀ (deep : Int) (known : List ByteArray), t.fit → known.length < 2 ^ 60 → -2 ^ 60 < deep ∧ deep < 2 ^ 60 → Pure (PCalls Tryd.prog GK) 37 [t.av, .d (.int .i64 deep), .d (strs known)] (i64 (t.check deep known)) := by
  induction t using KT.ind with
  | h k m n o ih =>
  intro deep known hfit hkn hd st
  obtain ⟨hn, ho, hf⟩ := hfit
  refine pcalls_of k37 e37 (of_decide_eq_true rfl) ?_; dsimp only [c37]
  refine gor0 ?_
  refine po_box (cells := [.d (.int .u8 k), .d (.int .i64 m), .d (strs n), .d (.sl (KT.rows o))]) rfl rfl fun b hb => ?_
  refine gor0 ?_
  have hle : st.le (st.setBox b [.d (.int .u8 k), .d (.int .i64 m), .d (strs n), .d (.sl (KT.rows o))]) := (St.le.refl _).setBox _ hb.1
  clear hb
  refine pcond_b rfl (fun h => ?_) (fun h => ?_)
  · refine gor0 ?_
    refine pfin_pure (congrArg (fun z => some (i64 z)) ?_) hle
    simp at h
    have : formE k m n o.length deep = 5 := by rw [formE, if_pos h]
    simp [KT.check, this]
  simp at h
  refine gor0 ?_

  refine pcond_b rfl (fun h1 => ?_) (fun h1 => ?_)
  · refine gor0 ?_
    refine pfin_pure (congrArg (fun z => some (i64 z)) ?_) hle
    simp at h1
    have : formE k m n o.length deep = 2 := by rw [formE, if_neg (by omega), if_pos (by omega)]
    simp [KT.check, this]
  simp at h1
  refine gor0 ?_
  refine pjoin (fun s t => s = put (put (put (put (fun _ => .undef) (some 8) (i64 (manyOf k n))) (some 3) (ptrAt b)) (some 2) (.d (strs known))) (some 1) (.d (.int .i64 deep)) ∧
    t = st.setBox b [.d (.int .u8 k), .d (.int .i64 m), .d (strs n), .d (.sl (KT.rows o))]) ?_ ?_
  · refine gor0 ?_
    refine pblock ?_
    refine gor0 ?_
    refine pcond_b rfl (fun h2 => ?_) (fun h2 => ?_)
    · refine gor0 ?_
      have : k = 5 := by simpa using h2
      refine ⟨by rw [manyOf, if_pos this]; rfl, by first | trivial | rfl⟩
    · have n5 : k ≠ 5 := by simpa using h2
      refine gor0 ?_
      refine pjoin (fun s t => s = put (put (put (put (put (fun _ => .undef) (some 52) (b2 (decide (k = 6 ∨ k = 8)))) (some 8) (i64 0)) (some 3) (ptrAt b)) (some 2) (.d (strs known))) (some 1) (.d (.int .i64 deep)) ∧
        t = st.setBox b [.d (.int .u8 k), .d (.int .i64 m), .d (strs n), .d (.sl (KT.rows o))]) ?_ ?_
      · refine gor0 ?_
        refine pcond_b rfl (fun h3 => ?_) (fun h3 => ?_)
        · refine gor0 ?_
          have : k = 6 := by simpa using h3
          refine ⟨?_, by first | trivial | rfl⟩
          rw [show (k == 6) = decide (k = 6 ∨ k = 8) by simp [this]]
          rfl
        · refine gor0 ?_
          have : k ≠ 6 := by simpa using h3
          refine ⟨?_, by first | trivial | rfl⟩
          rw [show (k == 8) = decide (k = 6 ∨ k = 8) by simp [this]; rfl]
          rfl
      · rintro s t ⟨rfl, rfl⟩
        refine gor0 ?_
        refine pcond_b rfl (fun h3 => ?_) (fun h3 => ?_)
        · refine gor0 ?_
          refine ⟨?_, by first | trivial | rfl⟩
          rw [show manyOf k n = n.length by rw [manyOf, if_neg n5, if_pos (by simpa using h3)]]
          rfl
        · refine gor0 ?_
          refine ⟨?_, by first | trivial | rfl⟩
          rw [show manyOf k n = 0 by rw [manyOf, if_neg n5, if_neg (by simpa using h3)]]
          rfl
  · rintro s t ⟨rfl, rfl⟩
    refine gor0 ?_
    refine pcond_b rfl (fun h2 => ?_) (fun h2 => ?_)
    · refine gor0 ?_
      refine pfin_pure (congrArg (fun z => some (i64 z)) ?_) hle
      simp [KT.rows_len] at h2
      have : formE k m n o.length deep = 4 := by rw [formE, if_neg (by omega), if_neg (by omega), if_pos (by omega)]
      simp [KT.check, this]
    simp [KT.rows_len] at h2
    have h20 : n.length > 0 → ¬ k ≤ 5 := fun h e => by rw [h2.1.2 e] at h; simp at h
    have hform : formE k m n o.length deep = 0 := by rw [formE, if_neg (by omega), if_neg (by omega), if_neg (by omega)]
    refine gor0 ?_
    refine pjoin (fun s t => (s = put (put (put (fun _ => .undef) (some 3) (ptrAt b)) (some 2) (.d (strs known))) (some 1) (.d (.int .i64 deep)) ∧
      t = st.setBox b [.d (.int .u8 k), .d (.int .i64 m), .d (strs n), .d (.sl (KT.rows o))]) ∧ ¬ (6 ≤ k ∧ k ≤ 8 ∧ namesM n ≠ 0)) ?_ ?_
    · refine gor0 ?_
      refine pcond_b rfl (fun h3 => ?_) (fun h3 => ?_)
      · simp at h3
        refine gor0 ?_
        refine po_callp rfl (C62 n hn) ?_
        refine gor0 ?_
        refine pcond_b rfl (fun h4 => ?_) (fun h4 => ?_)
        · refine gor0 ?_
          refine pfin_pure (congrArg (fun z => some (i64 z)) ?_) hle
          simp at h4
          have : nameE k n known = namesM n := by rw [nameE, if_pos ⟨h3.1, h3.2, h4⟩]
          simp [KT.check, hform, this, h4]
        · refine gor0 ?_
          simp at h4
          exact ⟨by first | trivial | exact ⟨rfl, rfl⟩, fun h => h.2.2 h4⟩
      · simp at h3
        refine gor0 ?_
        exact ⟨by first | trivial | exact ⟨rfl, rfl⟩, fun h => absurd h.2.1 (by have := h3 h.1; omega)⟩
    · rintro s t ⟨⟨rfl, rfl⟩, h3⟩
      refine gor0 ?_
      apply po_g
      · (first | exact wt0 rfl | exact wf0 rfl | exact wt1 rfl | exact wf1 rfl)
      · intro hw
        refine does_N rfl (iaddr_strsD (l := n) (k := 0) ?_ ?_ ?_)
        · (first | rfl | (simp +decide only [pvc, hw]; done) | (simp +decide only [pvc, hw]; rfl))
        · (first | rfl | (simp +decide only [pvc, hw]; done) | (simp +decide only [pvc, hw]; rfl))
        · have : k = 9 := by simpa using hw
          omega
      refine gor0 ?_
      apply po_g
      · (first | exact wt0 rfl | exact wf0 rfl | exact wt1 rfl | exact wf1 rfl)
      · intro hw
        refine does_callp ?_ (C36 known (n.getD 0 (bs [])) (by omega))
        (first | rfl | (simp +decide only [pvc, hw]; done) | (simp +decide only [pvc, hw]; rfl))
      refine gor0 ?_
      refine pcond_b rfl (fun h4 => ?_) (fun h4 => ?_)
      · refine gor0 ?_
        refine pfin_pure (congrArg (fun z => some (i64 z)) ?_) hle
        simp at h4
        have : nameE k n known = 10 := by rw [nameE, if_neg h3, if_pos ⟨h4.1, by simpa using h4.2⟩]
        simp [KT.check, hform, this]
      simp at h4
      have hname : nameE k n known = 0 := by
        rw [nameE, if_neg h3, if_neg (fun e => by have := h4 e.1; rw [List.getD_eq_getElem?_getD] at e; simp [this] at e)]
      refine gor0 ?_
      rw [KT.rows_len]
      refine prangeL o.length (by omega) (fun k => put (put (put (put (put (fun _ => .undef) (some 114) (i64 k)) (some 113) (i64 o.length)) (some 112) (.d (.sl (KT.rows o)))) (some 2) (.d (strs known))) (some 1) (.d (.int .i64 deep)))
        (fun t => st.le t) (fun i => ∀ u ∈ o.take i, u.check (deep - 1) known = 0) (by simp) rfl hle (fun k => rfl) (fun k => rfl) ?_ ?_
      · intro t hle hI
        rw [List.take_length] at hI
        refine gor0 ?_
        refine pfin_pure (congrArg (fun z => some (i64 z)) ?_) hle
        simp [KT.check, hform, hname, KT.checks_zero.2 hI]
      · intro i hi t hle hI
        have hrow : (KT.rows o)[i]'(by rw [KT.rows_len]; exact hi) = o[i].row := by simp [KT.rows_map]
        have hmem := List.getElem_mem hi
        have hx := ih o[i] hmem (deep - 1) known (KT.fits_mem hf _ hmem) hkn (by omega)
        have hfirst := KT.checks_first (known := known) hi hI
        have htake : ∀ P : KT → Prop, (∀ u ∈ o.take i, P u) → P o[i] → ∀ u ∈ o.take (i + 1), P u := by
          intro P h1 h2 u hu
          rw [List.take_succ_eq_append_getElem hi, List.mem_append, List.mem_singleton] at hu
          rcases hu with hu | rfl
          · exact h1 u hu
          · exact h2
        have hw : IntKind.i64.wrap (deep - 1) = deep - 1 := IntWalk.i64_in _ (by omega)
        refine pblock ?_
        refine gor0 ?_
        refine po rfl (iaddr_rows (v := .d (.sl (KT.rows o))) rfl rfl rfl (by rw [KT.rows_len]; exact hi) (by rw [hrow]; exact KT.row_len _)) ?_
        rw [hrow]
        generalize o[i] = x at *
        obtain ⟨k', m', n', o'⟩ := x
        refine gor0 ?_
        refine po_alloc fun b' hb' => ?_
        have hle' := hle.setBox [.d (.int .u8 k'), .d (.int .i64 m'), .d (strs n'), .d (.sl (KT.rows o'))] (b := b') (by
          cases e : st.box b' with
          | none => rfl
          | some l => have := hle.box _ _ e; rw [hb'.1] at this; cases this)
        clear hb'
        refine gor0 ?_
        refine gnm0 ?_; rw [hw]
        refine po_callp rfl hx ?_
        refine gor0 ?_
        refine pcond_b rfl (fun h5 => ?_) (fun h5 => ?_)
        · simp at h5
          refine gor0 ?_
          refine pfin_pure (congrArg (fun z => some (i64 z)) ?_) hle'
          simp [KT.check, hform, hname, hfirst h5]
        · simp at h5
          refine gor0 ?_
          ((repeat' (with_reducible apply And.intro)) <;> (try (first | trivial | rfl)))
          all_goals first | exact htake _ hI h5 | exact hle'
end Go.Pv
namespace Go.Pv
open Go.Proofs
set_option maxRecDepth 100000
set_option maxHeartbeats 4000000

/-- slices.Equal[[]string,string] -/
abbrev c59_2 : PCode :=
 (.seq (.region [⟨(.some 4), (.mov (.c (.d (.bool .false)))), .none⟩])
 .ret)
abbrev c59_1 : PCode :=
 (.cond (.t 10)
  c59_2
  .skip)
abbrev c59_8 : PCode :=
 (.seq (.region [⟨(.some 4), (.mov (.c (.d (.bool .false)))), .none⟩])
 .ret)
abbrev c59_7 : PCode :=
 (.cond (.t 24)
  c59_8
  .skip)
abbrev c59_6 : PCode :=
 (.seq (.region [⟨(.some 16), (.mov (.t 0)), .none⟩,
   ⟨(.some 17), (.mov (.t 5)), .none⟩,
   ⟨(.some 18), (.iaddr 1 (.t 16) (.t 17)), .none⟩,
   ⟨(.some 19), (.load .false 1 (.t 18) .false), .none⟩,
   ⟨(.some 20), (.mov (.t 1)), .none⟩,
   ⟨(.some 21), (.mov (.t 5)), .none⟩,
   ⟨(.some 22), (.iaddr 1 (.t 20) (.t 21)), .none⟩,
   ⟨(.some 23), (.load .false 1 (.t 22) .false), .none⟩,
   ⟨(.some 24), (.bin .neq (.t 19) (.t 23)), .none⟩])
 c59_7)
abbrev c59_5 : PCode :=
 (.block 1 (.seq (.region [⟨(.some 15), (.mov (.t 13)), .none⟩,
   ⟨(.some 5), (.mov (.t 15)), .none⟩])
 c59_6))
abbrev c59_4 : PCode :=
 (.keep [0, 1, 12, 13] (.block 0 (.loop (.some [0, 1, 12, 13]) (.seq (.region [⟨(.some 14), (.bin .lss (.t 13) (.t 12)), .none⟩])
 (.seq (.cond (.t 14)
  .skip
  (.exit 0))
 (.seq c59_5
 (.region [⟨(.some 25), (.bin .add (.t 13) (.c (.d (.int .i64 1)))), .none⟩,
   ⟨(.some 13), (.mov (.t 25)), .none⟩])))))))
abbrev c59_9 : PCode :=
 (.seq (.region [⟨(.some 4), (.mov (.c (.d (.bool .true)))), .none⟩])
 .ret)
abbrev c59_3 : PCode :=
 (.keep [0, 1] (.seq (.seq (.region [⟨(.some 11), (.mov (.t 0)), .none⟩,
   ⟨(.some 12), (.len (.t 11)), .none⟩,
   ⟨(.some 13), (.mov (.c (.d (.int .i64 0)))), .none⟩])
 c59_4)
 c59_9))
abbrev c59_0 : PCode :=
 (.seq (.seq (.region [⟨(.some 6), (.mov (.t 0)), .none⟩,
   ⟨(.some 7), (.len (.t 6)), .none⟩,
   ⟨(.some 8), (.mov (.t 1)), .none⟩,
   ⟨(.some 9), (.len (.t 8)), .none⟩,
   ⟨(.some 10), (.bin .neq (.t 7) (.t 9)), .none⟩])
 c59_1)
 c59_3)
def c59 : PFun := ⟨
 (.seq (.region [⟨(.some 4), (.mov (.c (.d (.bool .false)))), .none⟩])
 c59_0),
 2, 26, [(.tmp 4)]⟩

/-- slices.EqualFunc[[]prompter/kind.Type,[]prompter/kind.Type,prompter/kind.Type,prompter/kind.Type] -/
abbrev c60_2 : PCode :=
 (.seq (.region [⟨(.some 6), (.mov (.c (.d (.bool .false)))), .none⟩])
 .ret)
abbrev c60_1 : PCode :=
 (.cond (.t 14)
  c60_2
  .skip)
abbrev c60_9 : PCode :=
 (.seq (.region [⟨(.some 6), (.mov (.c (.d (.bool .false)))), .none⟩])
 .ret)
abbrev c60_8 : PCode :=
 (.cond (.t 30)
  c60_9
  .skip)
abbrev c60_7 : PCode :=
 (.keep [1, 2, 8, 9, 15, 16, 17] (.seq (.region [⟨(.some 26), (.mov (.t 2)), .none⟩,
   ⟨(.some 27), (.load .true 4 (.t 8) .false), .none⟩,
   ⟨(.some 28), (.load .true 4 (.t 9) .false), .none⟩,
   ⟨(.some 29), (.callvp (.t 26) [(.t 27), (.t 28)]), .none⟩,
   ⟨(.some 30), (.not (.t 29)), .none⟩])
 c60_8))
abbrev c60_6 : PCode :=
 (.keep [1, 2, 7, 8, 15, 16, 17] (.seq (.region [⟨(.some 22), (.mov (.t 1)), .none⟩,
   ⟨(.some 23), (.mov (.t 7)), .none⟩,
   ⟨(.some 24), (.iaddr 4 (.t 22) (.t 23)), .none⟩,
   ⟨(.some 25), (.load .true 4 (.t 24) .false), .none⟩,
   ⟨(.some 9), (.alloc [(.d (.int .u8 0)), (.d (.int .i64 0)), (.full []), (.full [])]), .none⟩,
   ⟨.none, (.store 4 (.t 9) (.t 25)), .none⟩])
 c60_7))
abbrev c60_5 : PCode :=
 (.block 1 (.seq (.region [⟨(.some 19), (.mov (.t 17)), .none⟩,
   ⟨(.some 20), (.iaddr 4 (.t 15) (.t 17)), .none⟩,
   ⟨(.some 21), (.load .true 4 (.t 20) .false), .none⟩,
   ⟨(.some 8), (.alloc [(.d (.int .u8 0)), (.d (.int .i64 0)), (.full []), (.full [])]), .none⟩,
   ⟨(.some 7), (.mov (.t 19)), .none⟩,
   ⟨.none, (.store 4 (.t 8) (.t 21)), .none⟩])
 c60_6))
abbrev c60_4 : PCode :=
 (.keep [1, 2, 15, 16, 17] (.block 0 (.loop (.some [1, 2, 15, 16, 17]) (.seq (.region [⟨(.some 18), (.bin .lss (.t 17) (.t 16)), .none⟩])
 (.seq (.cond (.t 18)
  .skip
  (.exit 0))
 (.seq c60_5
 (.region [⟨(.some 31), (.bin .add (.t 17) (.c (.d (.int .i64 1)))), .none⟩,
   ⟨(.some 17), (.mov (.t 31)), .none⟩])))))))
abbrev c60_10 : PCode :=
 (.seq (.region [⟨(.some 6), (.mov (.c (.d (.bool .true)))), .none⟩])
 .ret)
abbrev c60_3 : PCode :=
 (.keep [0, 1, 2] (.seq (.seq (.region [⟨(.some 15), (.mov (.t 0)), .none⟩,
   ⟨(.some 16), (.len (.t 15)), .none⟩,
   ⟨(.some 17), (.mov (.c (.d (.int .i64 0)))), .none⟩])
 c60_4)
 c60_10))
abbrev c60_0 : PCode :=
 (.seq (.seq (.region [⟨(.some 10), (.mov (.t 0)), .none⟩,
   ⟨(.some 11), (.len (.t 10)), .none⟩,
   ⟨(.some 12), (.mov (.t 1)), .none⟩,
   ⟨(.some 13), (.len (.t 12)), .none⟩,
   ⟨(.some 14), (.bin .neq (.t 11) (.t 13)), .none⟩])
 c60_1)
 c60_3)
def c60 : PFun := ⟨
 (.seq (.region [⟨(.some 6), (.mov (.c (.d (.bool .false)))), .none⟩])
 c60_0),
 3, 32, [(.tmp 6)]⟩

/-- prompter/kind.Same -/
abbrev c30_0 : PCode :=
 (.keep [2, 3] (.seq (.region [⟨(.some 5), (.faddr 0 (.t 2)), .none⟩,
   ⟨(.some 6), (.load .false 1 (.t 5) .false), .none⟩,
   ⟨(.some 7), (.faddr 0 (.t 3)), .none⟩,
   ⟨(.some 8), (.load .false 1 (.t 7) .false), .none⟩,
   ⟨(.some 9), (.bin .eql (.t 6) (.t 8)), .none⟩,
   ⟨(.some 10), (.mov (.t 9)), .none⟩,
   ⟨(.some 11), (.faddr 1 (.t 2)), (.some (10, .true))⟩,
   ⟨(.some 12), (.load .false 1 (.t 11) .false), (.some (10, .true))⟩,
   ⟨(.some 13), (.faddr 1 (.t 3)), (.some (10, .true))⟩,
   ⟨(.some 14), (.load .false 1 (.t 13) .false), (.some (10, .true))⟩,
   ⟨(.some 15), (.bin .eql (.t 12) (.t 14)), (.some (10, .true))⟩,
   ⟨(.some 16), (.pick (.t 10) (.t 15) (.c (.d (.bool .false)))), .none⟩,
   ⟨(.some 17), (.mov (.t 16)), .none⟩,
   ⟨(.some 18), (.faddr 2 (.t 2)), (.some (17, .true))⟩,
   ⟨(.some 19), (.load .false 1 (.t 18) .false), (.some (17, .true))⟩,
   ⟨(.some 20), (.faddr 2 (.t 3)), (.some (17, .true))⟩,
   ⟨(.some 21), (.load .false 1 (.t 20) .false), (.some (17, .true))⟩,
   ⟨(.some 22), (.callp 59 [(.t 19), (.t 21)]), (.some (17, .true))⟩,
   ⟨(.some 23), (.pick (.t 17) (.t 22) (.c (.d (.bool .false)))), .none⟩,
   ⟨(.some 24), (.mov (.t 23)), .none⟩,
   ⟨(.some 25), (.faddr 3 (.t 2)), (.some (24, .true))⟩,
   ⟨(.some 26), (.load .false 1 (.t 25) .false), (.some (24, .true))⟩,
   ⟨(.some 27), (.faddr 3 (.t 3)), (.some (24, .true))⟩,
   ⟨(.some 28), (.load .false 1 (.t 27) .false), (.some (24, .true))⟩,
   ⟨(.some 29), (.callp 60 [(.t 26), (.t 28), (.c (.d (.fn 30 [] [])))]), (.some (24, .true))⟩,
   ⟨(.some 30), (.pick (.t 24) (.t 29) (.c (.d (.bool .false)))), .none⟩,
   ⟨(.some 4), (.mov (.t 30)), .none⟩])
 .ret))
def c30 : PFun := ⟨
 (.seq (.region [⟨(.some 2), (.box 4 (.t 0)), .none⟩,
   ⟨(.some 3), (.box 4 (.t 1)), .none⟩,
   ⟨(.some 4), (.mov (.c (.d (.bool .false)))), .none⟩])
 c30_0),
 2, 31, [(.tmp 4)]⟩

theorem e59 : entered Tryd.prog 59 = true := by kernel_rfl
theorem k59 : compFun Tryd.prog (fun _ => 1) 59 = some c59.er := by kernel_rfl
theorem e60 : entered Tryd.prog 60 = true := by kernel_rfl
theorem k60 : compFun Tryd.prog (fun _ => 1) 60 = some c60.er := by kernel_rfl
theorem e30 : entered Tryd.prog 30 = true := by kernel_rfl
theorem k30 : compFun Tryd.prog (fun _ => 1) 30 = some c30.er := by kernel_rfl


theorem C59 (l k : List ByteArray) (hl : l.length < 2 ^ 60) : Pure (PCalls Tryd.prog GK) 59 [.d (strs l), .d (strs k)] (b2 (eqAll seqB l k)) := by
  intro st
  refine pcalls_of k59 e59 (of_decide_eq_true rfl) ?_; dsimp only [c59]
  refine gor0 ?_
  refine pcond_b rfl (fun h => ?_) (fun h => ?_)
  · refine gor0 ?_
    refine pfin_pure (congrArg (fun z => some (b2 z)) ?_) (.refl _)
    cases e : eqAll seqB l k
    · rfl
    · have := eqAll_len e; simp at h; omega
  have hlk : l.length = k.length := by simp at h; omega
  refine gor0 ?_
  refine prange l.length (by omega) (fun i => put (put (put (put (fun _ => .undef) (some 13) (i64 i)) (some 12) (i64 l.length)) (some 1) (.d (strs k))) (some 0) (.d (strs l))) (fun _ => st) (fun i => ∀ j (h1 : j < l.length) (h2 : j < k.length), j < i → seqB l[j] k[j] = true) (fun j _ _ h => absurd h (Nat.not_lt_zero _)) rfl rfl (fun k => rfl) (fun k => rfl) ?_ ?_
  · intro hI
    refine gor0 ?_
    exact pfin_pure (congrArg (fun z => some (b2 z)) (eqAll_all hlk fun i h1 h2 => hI i h1 h2 h1).symm) (.refl _)
  · intro i hi hI
    refine pblock ?_
    refine gor0 ?_
    refine po rfl (iaddr_strs rfl rfl hi) ?_
    refine gor0 ?_
    refine po rfl (iaddr_strs rfl rfl (show i < k.length by omega)) ?_
    refine gor0 ?_
    refine pcond_b rfl (fun h1 => ?_) (fun h1 => ?_)
    · refine gor0 ?_
      refine pfin_pure (congrArg (fun z => some (b2 z)) (eqAll_first hi (show i < k.length by omega) ?_).symm) (.refl _)
      simpa [seqB] using h1
    · refine gor0 ?_
      ((repeat' (with_reducible apply And.intro)) <;> (try (first | trivial | rfl)))
      intro j a1 a2 hj
      by_cases e : j = i
      · subst e; simpa [seqB] using h1
      · exact hI j a1 a2 (by omega)

theorem C60 (g : FuncId) (e : KT → KT → Bool) (l k : List KT) (hl : l.length < 2 ^ 60) (hg : ∀ x ∈ l, ∀ y ∈ k, Pure (PCalls Tryd.prog GK) g [x.av, y.av] (b2 (e x y))) :
    Pure (PCalls Tryd.prog GK) 60 [.d (.sl (KT.rows l)), .d (.sl (KT.rows k)), .d (.fn g [] [])] (b2 (eqAll e l k)) := by
  intro st
  refine pcalls_of k60 e60 (of_decide_eq_true rfl) ?_; dsimp only [c60]
  refine gor0 ?_
  refine pcond_b rfl (fun h => ?_) (fun h => ?_)
  · refine gor0 ?_
    refine pfin_pure (congrArg (fun z => some (b2 z)) ?_) (.refl _)
    cases e : eqAll e l k
    · rfl
    · have := eqAll_len e; simp [KT.rows_len] at h; omega
  have hlk : l.length = k.length := by simp [KT.rows_len] at h; omega
  refine gor0 ?_
  rw [KT.rows_len]
  refine prangeL l.length (by omega) (fun i => put (put (put (put (put (fun _ => .undef) (some 17) (i64 i)) (some 16) (i64 l.length)) (some 15) (.d (.sl (KT.rows l)))) (some 2) (.d (.fn g [] []))) (some 1) (.d (.sl (KT.rows k))))
    (fun t => st.le t) (fun i => ∀ j (h1 : j < l.length) (h2 : j < k.length), j < i → e l[j] k[j] = true) (fun j _ _ h => absurd h (Nat.not_lt_zero _)) rfl (.refl _) (fun k => rfl) (fun k => rfl) ?_ ?_
  · intro t hle hI
    refine gor0 ?_
    exact pfin_pure (congrArg (fun z => some (b2 z)) (eqAll_all hlk fun i h1 h2 => hI i h1 h2 h1).symm) hle
  · intro i hi t hle hI
    have hi' : i < k.length := by omega
    have hrow : (KT.rows l)[i]'(by rw [KT.rows_len]; exact hi) = l[i].row := by simp [KT.rows_map]
    have hrow' : (KT.rows k)[i]'(by rw [KT.rows_len]; exact hi') = k[i].row := by simp [KT.rows_map]
    have hx := hg _ (List.getElem_mem hi) _ (List.getElem_mem hi')
    have hnext : e l[i] k[i] = true → ∀ j (h1 : j < l.length) (h2 : j < k.length), j < i + 1 → e l[j] k[j] = true := by
      intro h j a1 a2 hj
      by_cases e' : j = i
      · subst e'; exact h
      · exact hI j a1 a2 (by omega)
    have hstop : e l[i] k[i] = false → eqAll e l k = false := eqAll_first hi hi'
    refine pblock ?_
    refine gor0 ?_
    refine po rfl (iaddr_rows (v := .d (.sl (KT.rows l))) rfl rfl rfl (by rw [KT.rows_len]; exact hi) (by rw [hrow]; exact KT.row_len _)) ?_
    rw [hrow]
    generalize l[i] = x at *
    obtain ⟨k1, m1, n1, o1⟩ := x
    refine gor0 ?_
    refine po_alloc fun b hb => ?_
    have fb : st.box b = none := (fresh_le hle (show t.fresh b from hb)).1
    clear hb
    refine gor0 ?_
    refine po rfl (iaddr_rows (v := .d (.sl (KT.rows k))) rfl rfl rfl (by rw [KT.rows_len]; exact hi') (by rw [hrow']; exact KT.row_len _)) ?_
    rw [hrow']
    generalize k[i] = y at *
    obtain ⟨k2, m2, n2, o2⟩ := y
    refine gor0 ?_
    refine po_alloc fun b' hb' => ?_
    have nb : b ≠ b' := fresh_ne hb'
    have fb' : st.box b' = none := (fresh_le hle (show t.fresh b' from fresh_under hb')).1
    clear hb'
    refine gor0 ?_
    refine po_callvp rfl rfl (hx.at _) ?_
    refine gor0 ?_
    have hle' := (hle.setBox [.d (.int .u8 k1), .d (.int .i64 m1), .d (strs n1), .d (.sl (KT.rows o1))] fb).setBox [.d (.int .u8 k2), .d (.int .i64 m2), .d (strs n2), .d (.sl (KT.rows o2))] fb'
    refine pcond_b rfl (fun h1 => ?_) (fun h1 => ?_)
    · refine gor0 ?_
      exact pfin_pure (congrArg (fun z => some (b2 z)) (hstop (by simpa using h1)).symm) hle'
    · refine gor0 ?_
      ((repeat' (with_reducible apply And.intro)) <;> (try (first | trivial | rfl)))
      all_goals first | exact hnext (by simpa using h1) | exact hle'

theorem C30 (t : KT) : ∀ (u : KT), t.fit → Pure (PCalls Tryd.prog GK) 30 [t.av, u.av] (b2 (t.same u)) := by
  induction t using KT.ind with
  | h k m n o ih =>
  rintro ⟨k', m', n', o'⟩ ⟨hn, ho, hf⟩ st
  refine pcalls_of k30 e30 (of_decide_eq_true rfl) ?_; dsimp only [c30]
  refine gor0 ?_
  refine po_box (cells := [.d (.int .u8 k), .d (.int .i64 m), .d (strs n), .d (.sl (KT.rows o))]) rfl rfl fun b hb => ?_
  refine gor0 ?_
  refine po_box (cells := [.d (.int .u8 k'), .d (.int .i64 m'), .d (strs n'), .d (.sl (KT.rows o'))]) rfl rfl fun b' hb' => ?_
  have nb : b ≠ b' := fresh_ne hb'
  have hle := ((St.le.refl st).setBox [.d (.int .u8 k), .d (.int .i64 m), .d (strs n), .d (.sl (KT.rows o))] hb.1).setBox [.d (.int .u8 k'), .d (.int .i64 m'), .d (strs n'), .d (.sl (KT.rows o'))] (fresh_under hb').1
  clear hb hb'
  refine gor0 ?_
  apply po_g
  · (first | exact wt0 rfl | exact wf0 rfl | exact wt1 rfl | exact wf1 rfl)
  · intro hw
    refine does_callp ?_ (C59 n n' (Nat.lt_of_lt_of_le hn.1 (by decide)))
    (first | rfl | (simp +decide only [pvc, hw]; done) | (simp +decide only [pvc, hw]; rfl))
  refine gor0 ?_
  apply po_g
  · (first | exact wt0 rfl | exact wf0 rfl | exact wt1 rfl | exact wf1 rfl)
  · intro hw
    refine does_callp ?_ (C60 30 KT.same o o' (by omega) fun x hx y _ => ih x hx y (KT.fits_mem hf x hx))
    (first | rfl | (simp +decide only [pvc, hw]; done) | (simp +decide only [pvc, hw]; rfl))
  refine gor0 ?_
  refine pfin_pure (congrArg (fun z => some (b2 z)) ?_) hle
  simp [KT.same, KT.sames_all]
end Go.Pv
namespace Go.Pv
open Go.Proofs
set_option maxRecDepth 100000
set_option maxHeartbeats 8000000

/-- slices.Clone[[]string,string] -/
abbrev c83_2 : PCode :=
 (.seq (.region [⟨(.some 2), (.mov (.c (.full []))), .none⟩])
 .ret)
abbrev c83_1 : PCode :=
 (.cond (.t 4)
  c83_2
  .skip)
abbrev c83_3 : PCode :=
 (.keep [0] (.seq (.region [⟨(.some 5), (.bsl 1 []), .none⟩,
   ⟨(.some 6), (.mov (.t 0)), .none⟩,
   ⟨(.some 7), (.app 1 16 (.t 5) (.t 6)), .none⟩,
   ⟨(.some 2), (.mov (.t 7)), .none⟩])
 .ret))
abbrev c83_0 : PCode :=
 (.seq (.seq (.region [⟨(.some 3), (.mov (.t 0)), .none⟩,
   ⟨(.some 4), (.isNilS .false (.t 3)), .none⟩])
 c83_1)
 c83_3)
def c83 : PFun := ⟨
 (.seq (.region [⟨(.some 2), (.mov (.c (.full []))), .none⟩])
 c83_0),
 1, 8, [(.tmp 2)]⟩

/-- (prompter/kind.Table).whole -/
abbrev c75_2 : PCode :=
 (.seq (.region [⟨(.some 19), (.bld [(.d (.int .u8 0)), (.d (.int .i64 0)), (.full []), (.full [])] []), .none⟩,
   ⟨.none, (.store 4 (.t 8) (.t 19)), .none⟩,
   ⟨(.some 9), (.mov (.c (.d (.int .i64 5)))), .none⟩])
 .ret)
abbrev c75_1 : PCode :=
 (.cond (.t 18)
  c75_2
  .skip)
abbrev c75_10 : PCode :=
 (.seq (.region [⟨(.some 44), (.faddr 3 (.t 4)), .none⟩,
   ⟨(.some 45), (.load .false 1 (.t 44) .false), .none⟩,
   ⟨(.some 46), (.mov (.t 10)), .none⟩,
   ⟨(.some 47), (.slc 5 (.t 45) .none (.some (.t 46))), .none⟩,
   ⟨(.some 48), (.bld [(.d (.str (bs []))), (.d (.int .i64 0)), (.d (.int .i64 0)), (.full []), (.full []), (.full [])] [(3, (1, (.t 47)))]), .none⟩,
   ⟨(.some 49), (.faddr 1 (.t 11)), .none⟩,
   ⟨(.some 50), (.load .true 4 (.t 49) .false), .none⟩,
   ⟨(.some 51), (.mov (.t 2)), .none⟩,
   ⟨(.some 52), (.bin .sub (.t 51) (.c (.d (.int .i64 1)))), .none⟩,
   ⟨(.some 53), (.mov (.t 3)), .none⟩,
   ⟨(.some 54), (.call0 75 [(.t 48), (.t 50), (.t 52), (.t 53)]), .none⟩,
   ⟨(.some 55), (.ext (.t 54) 0), .none⟩,
   ⟨(.some 56), (.ext (.t 54) 1), .none⟩,
   ⟨.none, (.store 4 (.t 8) (.t 55)), .none⟩,
   ⟨(.some 9), (.mov (.t 56)), .none⟩])
 .ret)
abbrev c75_9 : PCode :=
 (.cond (.t 43)
  c75_10
  .skip)
abbrev c75_8 : PCode :=
 (.keep [2, 3, 4, 5, 8, 10, 11, 24, 25, 26] (.seq (.region [⟨(.some 31), (.faddr 2 (.t 5)), .none⟩,
   ⟨(.some 32), (.load .false 1 (.t 31) .false), .none⟩,
   ⟨(.some 33), (.len (.t 32)), .none⟩,
   ⟨(.some 34), (.bin .eql (.t 33) (.c (.d (.int .i64 1)))), .none⟩,
   ⟨(.some 35), (.mov (.t 34)), .none⟩,
   ⟨(.some 36), (.faddr 0 (.t 11)), (.some (35, .true))⟩,
   ⟨(.some 37), (.load .false 1 (.t 36) .false), (.some (35, .true))⟩,
   ⟨(.some 38), (.faddr 2 (.t 5)), (.some (35, .true))⟩,
   ⟨(.some 39), (.load .false 1 (.t 38) .false), (.some (35, .true))⟩,
   ⟨(.some 40), (.iaddr 1 (.t 39) (.c (.d (.int .i64 0)))), (.some (35, .true))⟩,
   ⟨(.some 41), (.load .false 1 (.t 40) .false), (.some (35, .true))⟩,
   ⟨(.some 42), (.bin .eql (.t 37) (.t 41)), (.some (35, .true))⟩,
   ⟨(.some 43), (.pick (.t 35) (.t 42) (.c (.d (.bool .false)))), .none⟩])
 c75_9))
abbrev c75_7 : PCode :=
 (.block 1 (.seq (.region [⟨(.some 28), (.mov (.t 26)), .none⟩,
   ⟨(.some 29), (.iaddr 5 (.t 24) (.t 26)), .none⟩,
   ⟨(.some 30), (.load .true 5 (.t 29) .false), .none⟩,
   ⟨(.some 11), (.alloc [(.d (.str (bs []))), (.d (.int .u8 0)), (.d (.int .i64 0)), (.full []), (.full [])]), .none⟩,
   ⟨(.some 10), (.mov (.t 28)), .none⟩,
   ⟨.none, (.store 5 (.t 11) (.t 30)), .none⟩])
 c75_8))
abbrev c75_6 : PCode :=
 (.keep [2, 3, 4, 5, 8, 24, 25, 26] (.block 0 (.loop (.some [2, 3, 4, 5, 8, 24, 25, 26]) (.seq (.region [⟨(.some 27), (.bin .lss (.t 26) (.t 25)), .none⟩])
 (.seq (.cond (.t 27)
  .skip
  (.exit 0))
 (.seq c75_7
 (.region [⟨(.some 57), (.bin .add (.t 26) (.c (.d (.int .i64 1)))), .none⟩,
   ⟨(.some 26), (.mov (.t 57)), .none⟩])))))))
abbrev c75_11 : PCode :=
 (.seq (.region [⟨(.some 58), (.bld [(.d (.int .u8 0)), (.d (.int .i64 0)), (.full []), (.full [])] []), .none⟩,
   ⟨.none, (.store 4 (.t 8) (.t 58)), .none⟩,
   ⟨(.some 9), (.mov (.c (.d (.int .i64 10)))), .none⟩])
 .ret)
abbrev c75_5 : PCode :=
 (.seq (.seq (.region [⟨(.some 23), (.faddr 3 (.t 4)), .none⟩,
   ⟨(.some 24), (.load .false 1 (.t 23) .false), .none⟩,
   ⟨(.some 25), (.len (.t 24)), .none⟩,
   ⟨(.some 26), (.mov (.c (.d (.int .i64 0)))), .none⟩])
 c75_6)
 c75_11)
abbrev c75_4 : PCode :=
 (.cond (.t 22)
  c75_5
  .skip)
abbrev c75_15 : PCode :=
 (.seq (.region [⟨(.some 68), (.bld [(.d (.int .u8 0)), (.d (.int .i64 0)), (.full []), (.full [])] []), .none⟩,
   ⟨.none, (.store 4 (.t 8) (.t 68)), .none⟩,
   ⟨(.some 9), (.mov (.c (.d (.int .i64 6)))), .none⟩])
 .ret)
abbrev c75_14 : PCode :=
 (.cond (.t 67)
  c75_15
  .skip)
abbrev c75_13 : PCode :=
 (.keep [2, 3, 4, 5, 8] (.seq (.region [⟨(.some 64), (.mov (.t 3)), .none⟩,
   ⟨(.some 65), (.nilchk (.t 64)), .none⟩,
   ⟨(.some 66), (.load .false 1 (.t 65) .false), .none⟩,
   ⟨(.some 67), (.bin .lss (.t 66) (.c (.d (.int .i64 0)))), .none⟩])
 c75_14))
abbrev c75_23 : PCode :=
 (.seq (.region [⟨(.some 95), (.bld [(.d (.int .u8 0)), (.d (.int .i64 0)), (.full []), (.full [])] []), .none⟩,
   ⟨(.some 96), (.mov (.t 16)), .none⟩,
   ⟨.none, (.store 4 (.t 8) (.t 95)), .none⟩,
   ⟨(.some 9), (.mov (.t 96)), .none⟩])
 .ret)
abbrev c75_22 : PCode :=
 (.cond (.t 94)
  c75_23
  .skip)
abbrev c75_24 : PCode :=
 (.keep [2, 3, 4, 8, 12, 15, 78, 79, 80] (.region [⟨(.some 97), (.faddr 3 (.t 12)), .none⟩,
   ⟨(.some 98), (.load .false 1 (.t 97) .false), .none⟩,
   ⟨(.some 99), (.load .true 4 (.t 15) .false), .none⟩,
   ⟨(.some 100), (.bsl 4 [(.t 99)]), .none⟩,
   ⟨(.some 101), (.app 4 64 (.t 98) (.t 100)), .none⟩,
   ⟨(.some 102), (.faddr 3 (.t 12)), .none⟩,
   ⟨.none, (.store 1 (.t 102) (.t 101)), .none⟩]))
abbrev c75_21 : PCode :=
 (.keep [2, 3, 4, 8, 12, 15, 16, 78, 79, 80] (.seq (.seq (.region [⟨(.some 93), (.mov (.t 16)), .none⟩,
   ⟨(.some 94), (.bin .neq (.t 93) (.c (.d (.int .i64 0)))), .none⟩])
 c75_22)
 c75_24))
abbrev c75_20 : PCode :=
 (.keep [2, 3, 4, 8, 12, 14, 78, 79, 80] (.seq (.region [⟨(.some 85), (.load .true 6 (.t 4) .false), .none⟩,
   ⟨(.some 86), (.load .true 4 (.t 14) .false), .none⟩,
   ⟨(.some 87), (.mov (.t 2)), .none⟩,
   ⟨(.some 88), (.bin .sub (.t 87) (.c (.d (.int .i64 1)))), .none⟩,
   ⟨(.some 89), (.mov (.t 3)), .none⟩,
   ⟨(.some 90), (.call0 75 [(.t 85), (.t 86), (.t 88), (.t 89)]), .none⟩,
   ⟨(.some 84), (.mov (.t 90)), .none⟩,
   ⟨(.some 91), (.ext (.t 84) 0), .none⟩,
   ⟨(.some 92), (.ext (.t 84) 1), .none⟩,
   ⟨(.some 15), (.alloc [(.d (.int .u8 0)), (.d (.int .i64 0)), (.full []), (.full [])]), .none⟩,
   ⟨.none, (.store 4 (.t 15) (.t 91)), .none⟩,
   ⟨(.some 16), (.mov (.t 92)), .none⟩])
 c75_21))
abbrev c75_19 : PCode :=
 (.block 3 (.seq (.region [⟨(.some 82), (.iaddr 4 (.t 78) (.t 80)), .none⟩,
   ⟨(.some 83), (.load .true 4 (.t 82) .false), .none⟩,
   ⟨(.some 14), (.alloc [(.d (.int .u8 0)), (.d (.int .i64 0)), (.full []), (.full [])]), .none⟩,
   ⟨.none, (.store 4 (.t 14) (.t 83)), .none⟩])
 c75_20))
abbrev c75_18 : PCode :=
 (.keep [2, 3, 4, 8, 12, 78, 79, 80] (.block 2 (.loop (.some [2, 3, 4, 8, 12, 78, 79, 80]) (.seq (.region [⟨(.some 81), (.bin .lss (.t 80) (.t 79)), .none⟩])
 (.seq (.cond (.t 81)
  .skip
  (.exit 2))
 (.seq c75_19
 (.region [⟨(.some 103), (.bin .add (.t 80) (.c (.d (.int .i64 1)))), .none⟩,
   ⟨(.some 80), (.mov (.t 103)), .none⟩])))))))
abbrev c75_25 : PCode :=
 (.seq (.region [⟨(.some 104), (.load .true 4 (.t 12) .false), .none⟩,
   ⟨.none, (.store 4 (.t 8) (.t 104)), .none⟩,
   ⟨(.some 9), (.mov (.c (.d (.int .i64 0)))), .none⟩])
 .ret)
abbrev c75_17 : PCode :=
 (.keep [2, 3, 4, 5, 8, 12] (.seq (.seq (.region [⟨(.some 77), (.faddr 3 (.t 5)), .none⟩,
   ⟨(.some 78), (.load .false 1 (.t 77) .false), .none⟩,
   ⟨(.some 79), (.len (.t 78)), .none⟩,
   ⟨(.some 80), (.mov (.c (.d (.int .i64 0)))), .none⟩])
 c75_18)
 c75_25))
abbrev c75_16 : PCode :=
 (.seq (.region [⟨(.some 69), (.faddr 0 (.t 5)), .none⟩,
   ⟨(.some 70), (.load .false 1 (.t 69) .false), .none⟩,
   ⟨(.some 71), (.faddr 1 (.t 5)), .none⟩,
   ⟨(.some 72), (.load .false 1 (.t 71) .false), .none⟩,
   ⟨(.some 73), (.faddr 2 (.t 5)), .none⟩,
   ⟨(.some 74), (.load .false 1 (.t 73) .false), .none⟩,
   ⟨(.some 75), (.callp 83 [(.t 74)]), .none⟩,
   ⟨(.some 76), (.bld [(.d (.int .u8 0)), (.d (.int .i64 0)), (.full []), (.full [])] [(0, (1, (.t 70))), (1, (1, (.t 72))), (2, (1, (.t 75)))]), .none⟩,
   ⟨(.some 12), (.alloc [(.d (.int .u8 0)), (.d (.int .i64 0)), (.full []), (.full [])]), .none⟩,
   ⟨.none, (.store 4 (.t 12) (.t 76)), .none⟩])
 c75_17)
abbrev c75_12 : PCode :=
 (.seq (.seq (.region [⟨(.some 59), (.mov (.t 3)), .none⟩,
   ⟨(.some 60), (.nilchk (.t 59)), .none⟩,
   ⟨(.some 61), (.load .false 1 (.t 60) .false), .none⟩,
   ⟨(.some 62), (.bin .sub (.t 61) (.c (.d (.int .i64 1)))), .none⟩,
   ⟨(.some 63), (.nilchk (.t 59)), .none⟩,
   ⟨.none, (.store 1 (.t 63) (.t 62)), .none⟩])
 c75_13)
 c75_16)
abbrev c75_3 : PCode :=
 (.keep [2, 3, 4, 5, 8] (.seq (.seq (.region [⟨(.some 20), (.faddr 0 (.t 5)), .none⟩,
   ⟨(.some 21), (.load .false 1 (.t 20) .false), .none⟩,
   ⟨(.some 22), (.bin .eql (.t 21) (.c (.d (.int .u8 9)))), .none⟩])
 c75_4)
 c75_12))
abbrev c75_0 : PCode :=
 (.keep [2, 3, 4, 5, 8] (.seq (.seq (.region [⟨(.some 17), (.mov (.t 2)), .none⟩,
   ⟨(.some 18), (.bin .lss (.t 17) (.c (.d (.int .i64 1)))), .none⟩])
 c75_1)
 c75_3))
def c75 : PFun := ⟨
 (.seq (.region [⟨(.some 4), (.box 6 (.t 0)), .none⟩,
   ⟨(.some 5), (.box 4 (.t 1)), .none⟩,
   ⟨(.some 8), (.alloc [(.d (.int .u8 0)), (.d (.int .i64 0)), (.full []), (.full [])]), .none⟩,
   ⟨(.some 9), (.mov (.c (.d (.int .i64 0)))), .none⟩])
 c75_0),
 4, 105, [(.cell 8 .true 4), (.tmp 9)]⟩

theorem e83 : entered Tryd.prog 83 = true := by kernel_rfl
theorem k83 : compFun Tryd.prog (fun _ => 1) 83 = some c83.er := by kernel_rfl
theorem e75 : entered Tryd.prog 75 = true := by kernel_rfl
theorem k75 : compFun Tryd.prog (fun i => if i = 14 then 1 else 0) 75 = some c75.er := by kernel_rfl


theorem C83 (l : List ByteArray) (hl : l.length < 2 ^ 40) : Pure (PCalls Tryd.prog GK) 83 [.d (strs l)] (.d (strs l)) := by
  intro st
  refine pcalls_of k83 e83 (of_decide_eq_true rfl) ?_; dsimp only [c83]
  cases l with
  | nil =>
    refine gor0 ?_
    refine po_nilE rfl fun b => ?_
    cases b
    · refine gor0 ?_
      refine po_app (rows := []) (news := []) rfl (.inl ⟨rfl, rfl⟩) rfl (fun r hr => by cases hr) (fun r hr => by cases hr) (by decide) ?_
      intro v t h
      refine gor0 ?_
      exact pfin_weak rfl h.weak h.le
    · refine gor0 ?_
      exact pfin_weak rfl rfl (.refl _)
  | cons x l =>
    refine gor0 ?_
    refine po_nilS (v := .d (strs (x :: l))) (b := false) rfl rfl ?_
    refine gor0 ?_
    refine po_app (rows := []) (news := srows (x :: l)) rfl (.inl ⟨rfl, rfl⟩) rfl (fun r hr => by cases hr) srows_one (by rw [len_srows]; simp only [List.length_nil]; omega) ?_
    intro v t h
    refine gor0 ?_
    exact pfin_weak rfl h.weak h.le

theorem fresh_store {st : St} {p b : Nat} {l k : List AV} (hp : st.box p = some l) (hb : st.fresh b) : (st.setBox p k).fresh b := by
  refine ⟨?_, hb.2⟩
  rw [St.box_setBox, if_neg (fun e => by have := hb.1; rw [e, hp] at this; cases this)]
  exact hb.1
theorem le_of {st t : St} {vs : List AV} {p : Nat} {l : List AV} (hT : Toks st t vs) (hp : t.box p = some l) (hb : ∀ c k, c ≠ p → st.box c = some k → t.box c = some k) : (st.setBox p l).le t := by
  refine ⟨fun c k hk => ?_, fun c k hk => ?_⟩
  · rw [St.box_setBox] at hk
    split at hk
    · rename_i e; rw [e, hp]; exact hk
    · rename_i e; exact hb c k e hk
  · rw [hT.same c ?_]
    · exact hk
    · intro v hv hc
      have hk : st.tok c = some k := hk
      rw [(hT.new v hv c hc).1] at hk
      cases hk
theorem St.setBox_self {st : St} {p : Nat} {l : List AV} (h : st.box p = some l) : st.setBox p l = st := by
  refine St.ext' (funext fun c => ?_) rfl
  rw [St.box_setBox]
  split
  · rename_i e; rw [e, h]
  · rfl
theorem St.le.store {s t : St} (h : s.le t) (p : Nat) (l : List AV) : (s.setBox p l).le (t.setBox p l) :=
  ⟨fun c k hk => by
    rw [St.box_setBox] at hk ⊢
    split at hk
    · rename_i e; rw [if_pos e]; exact hk
    · rename_i e; rw [if_neg e]; exact h.box c k hk, h.tok⟩

theorem C75 : ∀ (d : Nat) (types : List Al) (x : KT) (left : Int) (a0 a1 a2 a4 a5 : Dat) (p : Nat) (st : St), d ≤ 20 → fitA types → x.fit → 0 ≤ left ∧ left < 2 ^ 40 → st.box p = some [i64 left] →
    PCalls Tryd.prog GK 75 [.agg [.d a0, .d a1, .d a2, .d (alRows types), .d a4, .d a5], x.av, .d (.int .i64 (d : Nat)), .d (.ptr p 0)] st
      (fun r st' => r = .tup [(wholeM d types x left).1.1.av, i64 (wholeM d types x left).1.2] ∧ st' = st.setBox p [i64 (wholeM d types x left).2]) := by
  intro d
  induction d with
  | zero =>
    intro types x left a0 a1 a2 a4 a5 p st hd hT hx hleft hp
    obtain ⟨k, m, n, o⟩ := x
    refine pcalls_of k75 e75 (of_decide_eq_true rfl) ?_; dsimp only [c75]
    refine gor0 ?_
    refine po_box (cells := [.d a0, .d a1, .d a2, .d (alRows types), .d a4, .d a5]) rfl rfl fun b1 hb1 => ?_
    refine gor0 ?_
    refine po_box (cells := [.d (.int .u8 k), .d (.int .i64 m), .d (strs n), .d (.sl (KT.rows o))]) rfl rfl fun b2 hb2 => ?_
    refine gor0 ?_
    refine po_alloc fun b3 hb3 => ?_
    have f1 := hb1.1
    have f2 := (fresh_under hb2).1
    have f3 := (fresh_under (fresh_under hb3)).1
    clear hb1 hb2 hb3
    refine gor0 ?_
    refine ⟨_, _, st, pret_two (pres_cell rfl (if_pos rfl) rfl) rfl, .inr rfl, (((((St.le.refl _).setBox _ f1).setBox _ f2).setBox _ f3)), ?_, ?_⟩
    · simp only [wholeM]; rw [zero_av]; rfl
    · exact (St.setBox_self hp).symm
  | succ d ih =>
    intro types x left a0 a1 a2 a4 a5 p st hd hT hx hleft hp
    obtain ⟨k, m, n, o⟩ := x
    obtain ⟨hn, ho, hf⟩ := hx
    refine pcalls_of k75 e75 (of_decide_eq_true rfl) ?_; dsimp only [c75]
    refine gor0 ?_
    refine po_box (cells := [.d a0, .d a1, .d a2, .d (alRows types), .d a4, .d a5]) rfl rfl fun b1 hb1 => ?_
    refine gor0 ?_
    refine po_box (cells := [.d (.int .u8 k), .d (.int .i64 m), .d (strs n), .d (.sl (KT.rows o))]) rfl rfl fun b2 hb2 => ?_
    refine gor0 ?_
    refine po_alloc fun b3 hb3 => ?_
    have n12 : b1 ≠ b2 := fresh_ne hb2
    have n23 : b2 ≠ b3 := fresh_ne hb3
    have n13 : b1 ≠ b3 := fresh_ne (fresh_under hb3)
    have f1 := hb1.1
    have f2 := (fresh_under hb2).1
    have f3 := (fresh_under (fresh_under hb3)).1
    have np1 : p ≠ b1 := fun e => by rw [e, f1] at hp; cases hp
    have np2 : p ≠ b2 := fun e => by rw [e, f2] at hp; cases hp
    have np3 : p ≠ b3 := fun e => by rw [e, f3] at hp; cases hp
    clear hb1 hb2 hb3
    have hle := (((St.le.refl st).setBox [.d a0, .d a1, .d a2, .d (alRows types), .d a4, .d a5] f1).setBox [.d (.int .u8 k), .d (.int .i64 m), .d (strs n), .d (.sl (KT.rows o))] f2)
    refine gor0 ?_
    refine gnm0 ?_; rw [decide_eq_false (show ¬ ((d + 1 : Nat) : Int) < 1 by omega)]
    refine gor0 ?_
    refine pcond_b rfl (fun h9 => ?_) (fun h9 => ?_)
    · have k9 : k = 9 := by simpa using h9
      subst k9
      refine gor0 ?_
      refine prangeL types.length (by have := hT.1; omega) (fun i => put (put (put (put (put (put (put (put (fun _ => .undef) (some 26) (i64 i)) (some 25) (i64 types.length)) (some 24) (.d (alRows types))) (some 8) (ptrAt b3)) (some 5) (ptrAt b2)) (some 4) (ptrAt b1)) (some 3) (.d (.ptr p 0))) (some 2) (.d (.int .i64 ((d + 1 : Nat) : Int))))
        (fun t => st.le t ∧ t.box b2 = some [.d (.int .u8 9), .d (.int .i64 m), .d (strs n), .d (.sl (KT.rows o))] ∧ t.box b1 = some [.d a0, .d a1, .d a2, .d (alRows types), .d a4, .d a5] ∧ t.box b3 = some [.d (.int .u8 0), .d (.int .i64 0), .full [], .full []])
        (fun i => ∀ j (h : j < types.length), j < i → (decide (n.length = 1) && seqB types[j].name (n.getD 0 (bs []))) = false) (fun j _ h => absurd h (Nat.not_lt_zero _)) rfl ⟨hle.setBox _ f3, ?_, ?_, ?_⟩ (fun k => rfl) (fun k => rfl) ?_ ?_
      · exact (if_neg n23).trans (if_pos rfl)
      · exact (if_neg n13).trans ((if_neg n12).trans (if_pos rfl))
      · exact if_pos rfl
      · rintro t ⟨hle, hb2, hb1, hb3⟩ hI
        have hno : ¬ refAt types n < types.length := by
          unfold refAt
          rw [List.findIdx_lt_length]
          rintro ⟨a, ha, hp⟩
          obtain ⟨j, hj, rfl⟩ := List.getElem_of_mem ha
          rw [hI j hj hj] at hp
          cases hp
        refine gor0 ?_
        refine ⟨_, _, st, pret_two (pres_cell rfl (if_pos rfl) rfl) rfl, .inr rfl, hle.setBox _ f3, ?_, ?_⟩
        · rw [wholeM_none hno, zero_av]; rfl
        · rw [wholeM_none hno]; exact (St.setBox_self hp).symm
      · rintro i hi t ⟨hle, hb2, hb1, hb3⟩ hI
        have hrow : (types.map Al.row)[i]'(by rw [List.length_map]; exact hi) = types[i].row := by simp
        have hfit : types[i].ty.fit := hT.2 _ (List.getElem_mem hi)
        have hidx : (decide (n.length = 1) && seqB types[i].name (n.getD 0 (bs []))) = true → refAt types n = i := by
          intro h
          unfold refAt
          rw [List.findIdx_eq hi]
          exact ⟨h, fun j hj => hI j (by omega) hj⟩
        have hnext : (decide (n.length = 1) && seqB types[i].name (n.getD 0 (bs []))) = false → ∀ j (h : j < types.length), j < i + 1 → (decide (n.length = 1) && seqB types[j].name (n.getD 0 (bs []))) = false := by
          intro h j hj hji
          by_cases e : j = i
          · subst e; exact h
          · exact hI j hj (by omega)
        have hget := fun h => wholeM_ref (d := d) (m := m) (o := o) (left := left) (n := n) hi h
        have hpt : t.box p = some [i64 left] := hle.box _ _ hp
        have hcall := fun st' (h : st'.box p = some [i64 left]) => ih (types.take i) types[i].ty left (.str (bs [])) (.int .i64 0) (.int .i64 0) (.sl []) (.sl []) p st' (by omega) ⟨by rw [List.length_take]; have := hT.1; omega, fun a ha => hT.2 a (List.mem_of_mem_take ha)⟩ hfit hleft h
        refine pblock ?_
        refine gor0 ?_
        refine po rfl (iaddr_rows (v := .d (alRows types)) rfl rfl rfl (by rw [List.length_map]; exact hi) (by rw [hrow]; exact Al.row_len _)) ?_
        rw [hrow]
        generalize types[i] = a at *
        obtain ⟨an, ⟨k', m', n', o'⟩⟩ := a
        refine gor0 ?_
        refine po_alloc fun b4 hb4 => ?_
        have nb1 : b1 ≠ b4 := fun e => by have := hb4.1; rw [← e] at this; rw [show t.box b1 = none from this] at hb1; cases hb1
        have nb2 : b2 ≠ b4 := fun e => by have := hb4.1; rw [← e] at this; rw [show t.box b2 = none from this] at hb2; cases hb2
        have nb3 : b3 ≠ b4 := fun e => by have := hb4.1; rw [← e] at this; rw [show t.box b3 = none from this] at hb3; cases hb3
        have nbp : p ≠ b4 := fun e => by have := hb4.1; rw [← e] at this; rw [show t.box p = none from this] at hpt; cases hpt
        have f4 : st.box b4 = none := (fresh_le hle (show t.fresh b4 from hb4)).1
        clear hb4
        refine gor0 ?_
        apply po_g
        · (first | exact wt0 rfl | exact wf0 rfl | exact wt1 rfl | exact wf1 rfl)
        · intro hw
          refine does_N rfl (iaddr_strsD (l := n) (k := 0) ?_ ?_ ?_)
          · (first | rfl | (simp +decide only [pvc, hw]; done) | (simp +decide only [pvc, hw]; rfl))
          · (first | rfl | (simp +decide only [pvc, hw]; done) | (simp +decide only [pvc, hw]; rfl))
          · have : (n.length : Int) = 1 := by simpa using hw
            omega
        refine gor0 ?_
        refine pcond_b rfl (fun h1 => ?_) (fun h1 => ?_)
        · have h1' : (decide (n.length = 1) && seqB an (n.getD 0 (bs []))) = true := by
            simp only [Bool.and_eq_true, beq_iff_eq, decide_eq_true_eq] at h1 ⊢
            exact ⟨by omega, by simpa [seqB] using h1.2⟩
          rw [hget (hidx h1')]
          refine gor0 ?_
          refine po rfl (slc_rows (j := i) rfl rfl (by rw [List.length_map]; omega)) ?_
          rw [show (types.map Al.row).take i = (types.take i).map Al.row from List.map_take.symm]
          refine gor0 ?_
          refine gnm0 ?_; rw [show IntKind.i64.wrap (((d + 1 : Nat) : Int) - 1) = (d : Int) from by rw [show ((d + 1 : Nat) : Int) - 1 = (d : Int) by omega]; exact IntWalk.i64_in _ (by omega)]
          refine po_callS rfl (hcall _ ?_) ?_ ?_
          · exact (if_neg nbp).trans hpt
          · exact fun L hL => ⟨_, _, ⟨rfl, rfl⟩, fun b hb => fresh_store ((if_neg nbp).trans hpt) (hL b hb)⟩
          · rintro r st' ⟨rfl, rfl⟩
            have hle4 := ((hle.setBox [.d (.str an), .d (.int .u8 k'), .d (.int .i64 m'), .d (strs n'), .d (.sl (KT.rows o'))] f4).store p [i64 (wholeM d (types.take i) (KT.mk k' m' n' o') left).2])
            simp only at hle4 ⊢
            generalize wholeM d (types.take i) (KT.mk k' m' n' o') left = W at *
            obtain ⟨⟨⟨k2, m2, n2, o2⟩, e⟩, l'⟩ := W
            refine gor0 ?_
            refine ⟨_, _, st.setBox p [i64 l'], pret_two (pres_cell rfl (if_pos rfl) rfl) rfl, .inl rfl, hle4.setBox _ ((if_neg (Ne.symm np3)).trans f3), rfl, rfl⟩
        · have h1' : (decide (n.length = 1) && seqB an (n.getD 0 (bs []))) = false := by
            cases e : (decide (n.length = 1) && seqB an (n.getD 0 (bs [])))
            · rfl
            · simp only [Bool.and_eq_true, decide_eq_true_eq, seqB] at e
              simp only [Bool.and_eq_false_iff] at h1
              rcases h1 with h1 | h1
              · simp [e.1] at h1
              · rw [e.2] at h1; cases h1
          refine gor0 ?_
          ((repeat' (with_reducible apply And.intro)) <;> (try (first | trivial | rfl)))
          all_goals first | exact hnext h1' | exact hle.setBox _ f4 | exact (if_neg nb2).trans hb2 | exact (if_neg nb1).trans hb1 | exact (if_neg nb3).trans hb3
    · have k9 : k ≠ 9 := by simpa using h9
      refine gor0 ?_
      rw [show IntKind.i64.wrap (left - 1) = left - 1 from IntWalk.i64_in _ (by omega)]
      have hle3 := (((hle.setBox [.d (.int .u8 0), .d (.int .i64 0), .full [], .full []] f3)).store p [i64 (left - 1)])
      refine pcond_b rfl (fun h0 => ?_) (fun h0 => ?_)
      · have h0' : left - 1 < 0 := by simpa using h0
        refine gor0 ?_
        refine ⟨_, _, st.setBox p [i64 (left - 1)], pret_two (pres_cell rfl (if_pos rfl) rfl) rfl, .inr rfl, hle3.setBox _ ((if_neg (Ne.symm np3)).trans f3), ?_, ?_⟩
        · rw [wholeM_out k9 h0', zero_av]; rfl
        · rw [wholeM_out k9 h0']
      have h0' : ¬ left - 1 < 0 := by simpa using h0
      refine gor0 ?_
      refine po_callp rfl (C83 n hn.1) ?_
      refine gor0 ?_
      refine po_alloc fun b4 hb4 => ?_
      have h4f : st.fresh b4 := (fun h => fresh_under (fresh_under (fresh_under (fresh_under h)))) hb4
      have n4p : p ≠ b4 := fresh_ne hb4
      have n43 : b3 ≠ b4 := fresh_ne (fresh_under hb4)
      have n42 : b2 ≠ b4 := fresh_ne (fresh_under (fresh_under hb4))
      have n41 : b1 ≠ b4 := fresh_ne (fresh_under (fresh_under (fresh_under hb4)))
      clear hb4
      refine gor0 ?_
      rw [KT.rows_len]
      refine prange' o.length (by omega) (fun i s t => s = put (put (put (put (put (put (put (put (fun _ => .undef) (some 80) (i64 i)) (some 79) (i64 o.length)) (some 78) (.d (.sl (KT.rows o)))) (some 12) (ptrAt b4)) (some 8) (ptrAt b3)) (some 4) (ptrAt b1)) (some 3) (.d (.ptr p 0))) (some 2) (.d (.int .i64 ((d + 1 : Nat) : Int))) ∧
        ∃ v outs li, foldW (wholeM d types) (o.take i) (left - 1) = ((outs, 0), li) ∧ 0 ≤ li ∧ li ≤ left ∧ outs.length = i ∧ Toks st t [v] ∧ VecIn t v (KT.rows outs) 4 ∧ t.box p = some [i64 li] ∧ (∀ c l, c ≠ p → st.box c = some l → t.box c = some l) ∧
          t.box b1 = some [.d a0, .d a1, .d a2, .d (alRows types), .d a4, .d a5] ∧ t.box b3 = some [.d (.int .u8 0), .d (.int .i64 0), .full [], .full []] ∧ t.box b4 = some [.d (.int .u8 k), .d (.int .i64 m), .d (strs n), v])
        ?_ ?_ ?_ ?_ ?_
      · refine ⟨rfl, .full [], [], left - 1, rfl, by omega, by omega, rfl, (Toks.start st).full [] |>.box _ _ |>.box _ _ |>.box _ _ |>.box _ _ |>.box _ _, .inl (by simp [KT.rows]), ?_, ?_, ?_, ?_, ?_⟩
        · exact (if_neg n4p).trans (if_pos rfl)
        · intro c l hc hl
          have e1 : c ≠ b1 := fun e => by rw [e, f1] at hl; cases hl
          have e2 : c ≠ b2 := fun e => by rw [e, f2] at hl; cases hl
          have e3 : c ≠ b3 := fun e => by rw [e, f3] at hl; cases hl
          have e4 : c ≠ b4 := fun e => by rw [e, h4f.1] at hl; cases hl
          exact (if_neg e4).trans ((if_neg hc).trans ((if_neg e3).trans ((if_neg e2).trans ((if_neg e1).trans hl))))
        · exact (if_neg n41).trans ((if_neg (Ne.symm np1)).trans ((if_neg n13).trans ((if_neg n12).trans (if_pos rfl))))
        · exact (if_neg n43).trans ((if_neg (Ne.symm np3)).trans (if_pos rfl))
        · exact if_pos rfl
      · rintro i s t _ ⟨rfl, _⟩; rfl
      · rintro i s t _ ⟨rfl, _⟩; rfl
      · rintro s t ⟨rfl, v, outs, li, h1, h2, h3, h4, h5, h6, h7, h8, h9, h10, h11⟩
        rw [List.take_length] at h1
        have hres := wholeM_rec (m := m) (n := n) k9 h0' h1
        rw [if_neg (by simp)] at hres
        rw [hres]
        have hle := (le_of h5 h7 h8).setBox [.d (.int .u8 k), .d (.int .i64 m), .d (strs n), v] (b := b3) ((if_neg (Ne.symm np3)).trans f3)
        rcases h6 with rfl | ⟨vb, cap, rfl, hvb⟩
        · refine gor0 ?_
          refine ⟨_, _, st.setBox p [i64 li], pret_two (pres_cell rfl (if_pos rfl) rfl) rfl, .inr rfl, hle, rfl, rfl⟩
        · refine gor0 ?_
          refine ⟨_, _, st.setBox p [i64 li], pret_two (pres_cell rfl (if_pos rfl) rfl) rfl, .inr rfl, hle, rfl, rfl⟩
      · rintro i hi s t ⟨rfl, v, outs, li, h1, h2, h3, h4, h5, h6, h7, h8, h9, h10, h11⟩
        have hrow : (KT.rows o)[i]'(by rw [KT.rows_len]; exact hi) = o[i].row := by simp [KT.rows_map]
        have hxf := KT.fits_mem hf _ (List.getElem_mem hi)
        have hsnoc := foldW_snoc (x := o[i]) h1
        rw [← List.take_succ_eq_append_getElem hi] at hsnoc
        have hleft' := wholeM_left d types o[i] li h2
        have hcall := fun st' (h : st'.box p = some [i64 li]) => ih types o[i] li a0 a1 a2 a4 a5 p st' (by omega) hT hxf ⟨h2, by omega⟩ h
        refine pblock ?_
        refine gor0 ?_
        refine po rfl (iaddr_rows (v := .d (.sl (KT.rows o))) rfl rfl rfl (by rw [KT.rows_len]; exact hi) (by rw [hrow]; exact KT.row_len _)) ?_
        rw [hrow]
        have hstop : (foldW (wholeM d types) (o.take (i + 1)) (left - 1)).1.2 ≠ 0 → foldW (wholeM d types) o (left - 1) = (([], (foldW (wholeM d types) (o.take (i + 1)) (left - 1)).1.2), (foldW (wholeM d types) (o.take (i + 1)) (left - 1)).2) := fun h => by
          have := foldW_stop (k := o.drop (i + 1)) h
          rwa [List.take_append_drop] at this
        generalize o[i] = x at *
        obtain ⟨k', m', n', o'⟩ := x
        refine gor0 ?_
        refine po_alloc fun b5 hb5 => ?_
        have h5f : t.fresh b5 := hb5
        clear hb5
        have n5p := ne_fresh h7 h5f
        have n51 := ne_fresh h9 h5f
        have n53 := ne_fresh h10 h5f
        have n54 := ne_fresh h11 h5f
        refine gor0 ?_
        refine gnm0 ?_; rw [show IntKind.i64.wrap (((d + 1 : Nat) : Int) - 1) = (d : Int) from by rw [show ((d + 1 : Nat) : Int) - 1 = (d : Int) by omega]; exact IntWalk.i64_in _ (by omega)]
        refine po_callS rfl (hcall _ ((if_neg n5p).trans h7)) (fun L hL => ⟨_, _, ⟨rfl, rfl⟩, fun b hb => fresh_store ((if_neg n5p).trans h7) (hL b hb)⟩) ?_
        rintro r st' ⟨rfl, rfl⟩
        generalize wholeM d types (KT.mk k' m' n' o') li = W at *
        obtain ⟨⟨⟨k2, m2, n2, o2⟩, e⟩, l'⟩ := W
        refine gor0 ?_
        refine po_alloc fun b6 hb6 => ?_
        have n6p : p ≠ b6 := fresh_ne hb6
        have n65 : b5 ≠ b6 := fresh_ne (fresh_under hb6)
        have h6f : t.fresh b6 := fresh_under (fresh_under hb6)
        clear hb6
        have n61 := ne_fresh h9 h6f
        have n63 := ne_fresh h10 h6f
        have n64 := ne_fresh h11 h6f
        refine gor0 ?_
        have g5 : ∀ c1 c2 c3, Toks st (((t.setBox b5 c1).setBox p c2).setBox b6 c3) [v] := fun c1 c2 c3 => ((h5.box _ _).box _ _).box _ _
        have g8 : ∀ c1 c2 c3 c l, c ≠ p → st.box c = some l → (((t.setBox b5 c1).setBox p c2).setBox b6 c3).box c = some l := by
          intro c1 c2 c3 c l hc hl
          have hl' := h8 c l hc hl
          exact (if_neg (ne_fresh hl' h6f)).trans ((if_neg hc).trans ((if_neg (ne_fresh hl' h5f)).trans hl'))
        refine pcond_b rfl (fun he => ?_) (fun he => ?_)
        · have he' : e ≠ 0 := by simpa using he
          rw [if_pos he'] at hsnoc
          rw [hsnoc] at hstop
          have hres := wholeM_rec (m := m) (n := n) k9 h0' (hstop he')
          rw [if_pos he'] at hres
          rw [hres]
          refine gor0 ?_
          refine ⟨_, _, st.setBox p [i64 l'], pret_two (pres_cell rfl (if_pos rfl) rfl) rfl, .inr rfl, (le_of (g5 _ _ _) ((if_neg n6p).trans (if_pos rfl)) (g8 _ _ _)).setBox _ ((if_neg (Ne.symm np3)).trans f3), ?_, rfl⟩
          rw [zero_av]; rfl
        · have he' : e = 0 := by simpa using he
          subst he'
          rw [if_neg (by simp)] at hsnoc
          have hl' := hleft'.2.2 rfl
          simp only at hleft' hl' hsnoc
          refine gor0 ?_
          refine po_appT (st := st) (v := v) (vs := []) (rows := KT.rows outs) (news := [(KT.mk k2 m2 n2 o2).row]) rfl (g5 _ _ _) ?_ rfl ?_ ?_ ?_ ?_
          · exact h6
          · intro r hr
            rw [KT.rows_map, List.mem_map] at hr
            obtain ⟨y, _, rfl⟩ := hr
            exact KT.row_len y
          · intro r hr
            rw [List.mem_singleton.1 hr]; rfl
          · rw [KT.rows_len, h4]
            simp only [List.length_cons, List.length_nil]
            omega
          · intro v' t' hg hv'
            rw [show KT.rows outs ++ [(KT.mk k2 m2 n2 o2).row] = KT.rows (outs ++ [KT.mk k2 m2 n2 o2]) by simp [KT.rows_map]] at hv'
            have hbx : ∀ c, t'.box c = _ := fun c => congrFun hg.box c
            have q4 : t'.box b4 = some [.d (.int .u8 k), .d (.int .i64 m), .d (strs n), v] := (hbx b4).trans ((if_neg n64).trans ((if_neg (Ne.symm n4p)).trans ((if_neg n54).trans h11)))
            have q1 : t'.box b1 = some [.d a0, .d a1, .d a2, .d (alRows types), .d a4, .d a5] := (hbx b1).trans ((if_neg n61).trans ((if_neg (Ne.symm np1)).trans ((if_neg n51).trans h9)))
            have q3 : t'.box b3 = some [.d (.int .u8 0), .d (.int .i64 0), .full [], .full []] := (hbx b3).trans ((if_neg n63).trans ((if_neg (Ne.symm np3)).trans ((if_neg n53).trans h10)))
            have qp : t'.box p = some [i64 l'] := (hbx p).trans ((if_neg n6p).trans (if_pos rfl))
            have qo : ∀ c l, c ≠ p → st.box c = some l → t'.box c = some l := fun c l hc hl => (hbx c).trans (g8 _ _ _ c l hc hl)
            have b4s : ∀ c l, st.box c = some l → c ≠ b4 := fun c l hl e => by rw [e, h4f.1] at hl; cases hl
            refine po rfl rfl ?_
            refine po_store rfl hv'.cells q4 ⟨rfl, by simp [hv'.sc]⟩ (of_decide_eq_true rfl) rfl (fun _ _ h => False.elim h) ?_
            refine gor0 ?_
            refine ⟨by first | trivial | rfl, by first | trivial | rfl, v', outs ++ [KT.mk k2 m2 n2 o2], l', hsnoc, hl', by omega, by simp [h4], hg.toks.box _ _, hv', (if_neg n4p).trans qp, fun c l hc hl => (if_neg (b4s c l hl)).trans (qo c l hc hl), (if_neg n41).trans q1, (if_neg n43).trans q3, if_pos rfl⟩
end Go.Pv
