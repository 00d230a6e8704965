/- Functions of the program, by value. No condition. -/
import Derived.Test.YtdggkhnelmonkaaDoorK1
namespace Go.Pv
open Go.Proofs
set_option maxRecDepth 100000
set_option maxHeartbeats 4000000

/-- prompter/kind.names -/
abbrev c62_2 : PCode :=
 (.seq (.region [⟨(.some 2), (.mov (.c (.d (.int .i64 7)))), .none⟩])
 .ret)
abbrev c62_1 : PCode :=
 (.cond (.t 12)
  c62_2
  .skip)
abbrev c62_8 : PCode :=
 (.seq (.region [⟨(.some 2), (.mov (.c (.d (.int .i64 8)))), .none⟩])
 .ret)
abbrev c62_7 : PCode :=
 (.cond (.t 22)
  c62_8
  .skip)
abbrev c62_11 : PCode :=
 (.seq (.region [⟨(.some 2), (.mov (.c (.d (.int .i64 9)))), .none⟩])
 .ret)
abbrev c62_10 : PCode :=
 (.cond (.t 27)
  c62_11
  .skip)
abbrev c62_9 : PCode :=
 (.keep [0, 3, 4, 13, 14, 15] (.seq (.region [⟨(.some 23), (.mov (.t 0)), .none⟩,
   ⟨(.some 24), (.mov (.t 3)), .none⟩,
   ⟨(.some 25), (.slc 1 (.t 23) .none (.some (.t 24))), .none⟩,
   ⟨(.some 26), (.mov (.t 4)), .none⟩,
   ⟨(.some 27), (.callp 36 [(.t 25), (.t 26)]), .none⟩])
 c62_10))
abbrev c62_6 : PCode :=
 (.keep [0, 3, 4, 13, 14, 15] (.seq (.seq (.region [⟨(.some 20), (.mov (.t 4)), .none⟩,
   ⟨(.some 21), (.callp 33 [(.t 20)]), .none⟩,
   ⟨(.some 22), (.not (.t 21)), .none⟩])
 c62_7)
 c62_9))
abbrev c62_5 : PCode :=
 (.block 1 (.seq (.region [⟨(.some 17), (.mov (.t 15)), .none⟩,
   ⟨(.some 18), (.iaddr 1 (.t 13) (.t 15)), .none⟩,
   ⟨(.some 19), (.load .false 1 (.t 18) .false), .none⟩,
   ⟨(.some 3), (.mov (.t 17)), .none⟩,
   ⟨(.some 4), (.mov (.t 19)), .none⟩])
 c62_6))
abbrev c62_4 : PCode :=
 (.keep [0, 13, 14, 15] (.block 0 (.loop (.some [0, 13, 14, 15]) (.seq (.region [⟨(.some 16), (.bin .lss (.t 15) (.t 14)), .none⟩])
 (.seq (.cond (.t 16)
  .skip
  (.exit 0))
 (.seq c62_5
 (.region [⟨(.some 28), (.bin .add (.t 15) (.c (.d (.int .i64 1)))), .none⟩,
   ⟨(.some 15), (.mov (.t 28)), .none⟩])))))))
abbrev c62_12 : PCode :=
 (.seq (.region [⟨(.some 2), (.mov (.c (.d (.int .i64 0)))), .none⟩])
 .ret)
abbrev c62_3 : PCode :=
 (.keep [0] (.seq (.seq (.region [⟨(.some 13), (.mov (.t 0)), .none⟩,
   ⟨(.some 14), (.len (.t 13)), .none⟩,
   ⟨(.some 15), (.mov (.c (.d (.int .i64 0)))), .none⟩])
 c62_4)
 c62_12))
abbrev c62_0 : PCode :=
 (.seq (.seq (.region [⟨(.some 5), (.mov (.t 0)), .none⟩,
   ⟨(.some 6), (.len (.t 5)), .none⟩,
   ⟨(.some 7), (.bin .lss (.t 6) (.c (.d (.int .i64 1)))), .none⟩,
   ⟨(.some 8), (.mov (.t 7)), .none⟩,
   ⟨(.some 9), (.mov (.t 0)), (.some (8, .false))⟩,
   ⟨(.some 10), (.len (.t 9)), (.some (8, .false))⟩,
   ⟨(.some 11), (.bin .gtr (.t 10) (.c (.d (.int .i64 12)))), (.some (8, .false))⟩,
   ⟨(.some 12), (.pick (.t 8) (.c (.d (.bool .true))) (.t 11)), .none⟩])
 c62_1)
 c62_3)
def c62 : PFun := ⟨
 (.seq (.region [⟨(.some 2), (.mov (.c (.d (.int .i64 0)))), .none⟩])
 c62_0),
 1, 29, [(.tmp 2)]⟩

/-- (prompter/kind.Type).check -/
abbrev c37_2 : PCode :=
 (.seq (.region [⟨(.some 6), (.mov (.c (.d (.int .i64 5)))), .none⟩])
 .ret)
abbrev c37_1 : PCode :=
 (.cond (.t 19)
  c37_2
  .skip)
abbrev c37_6 : PCode :=
 (.seq (.region [⟨(.some 6), (.mov (.c (.d (.int .i64 2)))), .none⟩])
 .ret)
abbrev c37_5 : PCode :=
 (.cond (.t 47)
  c37_6
  .skip)
abbrev c37_11 : PCode :=
 (.region [⟨(.some 8), (.mov (.c (.d (.int .i64 1)))), .none⟩])
abbrev c37_14 : PCode :=
 (.region [⟨(.some 54), (.bin .eql (.t 49) (.c (.d (.int .u8 8)))), .none⟩,
   ⟨(.some 52), (.mov (.t 54)), .none⟩])
abbrev c37_13 : PCode :=
 (.cond (.t 52)
  .skip
  c37_14)
abbrev c37_16 : PCode :=
 (.region [⟨(.some 55), (.faddr 2 (.t 3)), .none⟩,
   ⟨(.some 56), (.load .false 1 (.t 55) .false), .none⟩,
   ⟨(.some 57), (.len (.t 56)), .none⟩,
   ⟨(.some 8), (.mov (.t 57)), .none⟩])
abbrev c37_15 : PCode :=
 (.keep [1, 2, 3, 8, 52] (.cond (.t 52)
  c37_16
  .skip))
abbrev c37_12 : PCode :=
 (.seq (.seq (.region [⟨(.some 53), (.bin .eql (.t 49) (.c (.d (.int .u8 6)))), .none⟩,
   ⟨(.some 52), (.mov (.t 53)), .none⟩])
 c37_13)
 c37_15)
abbrev c37_10 : PCode :=
 (.cond (.t 50)
  c37_11
  c37_12)
abbrev c37_9 : PCode :=
 (.block 0 (.seq (.region [⟨(.some 51), (.bin .eql (.t 49) (.c (.d (.int .u8 5)))), .none⟩,
   ⟨(.some 50), (.mov (.t 51)), .none⟩])
 c37_10))
abbrev c37_19 : PCode :=
 (.seq (.region [⟨(.some 6), (.mov (.c (.d (.int .i64 4)))), .none⟩])
 .ret)
abbrev c37_18 : PCode :=
 (.cond (.t 84)
  c37_19
  .skip)
abbrev c37_25 : PCode :=
 (.seq (.region [⟨(.some 98), (.mov (.t 9)), .none⟩,
   ⟨(.some 6), (.mov (.t 98)), .none⟩])
 .ret)
abbrev c37_24 : PCode :=
 (.cond (.t 97)
  c37_25
  .skip)
abbrev c37_23 : PCode :=
 (.keep [1, 2, 3, 9] (.seq (.region [⟨(.some 96), (.mov (.t 9)), .none⟩,
   ⟨(.some 97), (.bin .neq (.t 96) (.c (.d (.int .i64 0)))), .none⟩])
 c37_24))
abbrev c37_22 : PCode :=
 (.seq (.region [⟨(.some 93), (.faddr 2 (.t 3)), .none⟩,
   ⟨(.some 94), (.load .false 1 (.t 93) .false), .none⟩,
   ⟨(.some 95), (.callp 62 [(.t 94)]), .none⟩,
   ⟨(.some 9), (.mov (.t 95)), .none⟩])
 c37_23)
abbrev c37_21 : PCode :=
 (.cond (.t 92)
  c37_22
  .skip)
abbrev c37_28 : PCode :=
 (.seq (.region [⟨(.some 6), (.mov (.c (.d (.int .i64 10)))), .none⟩])
 .ret)
abbrev c37_27 : PCode :=
 (.cond (.t 110)
  c37_28
  .skip)
abbrev c37_35 : PCode :=
 (.seq (.region [⟨(.some 125), (.mov (.t 12)), .none⟩,
   ⟨(.some 6), (.mov (.t 125)), .none⟩])
 .ret)
abbrev c37_34 : PCode :=
 (.cond (.t 124)
  c37_35
  .skip)
abbrev c37_33 : PCode :=
 (.keep [1, 2, 12, 112, 113, 114] (.seq (.region [⟨(.some 123), (.mov (.t 12)), .none⟩,
   ⟨(.some 124), (.bin .neq (.t 123) (.c (.d (.int .i64 0)))), .none⟩])
 c37_34))
abbrev c37_32 : PCode :=
 (.keep [1, 2, 11, 112, 113, 114] (.seq (.region [⟨(.some 118), (.load .true 4 (.t 11) .false), .none⟩,
   ⟨(.some 119), (.mov (.t 1)), .none⟩,
   ⟨(.some 120), (.bin .sub (.t 119) (.c (.d (.int .i64 1)))), .none⟩,
   ⟨(.some 121), (.mov (.t 2)), .none⟩,
   ⟨(.some 122), (.callp 37 [(.t 118), (.t 120), (.t 121)]), .none⟩,
   ⟨(.some 12), (.mov (.t 122)), .none⟩])
 c37_33))
abbrev c37_31 : PCode :=
 (.block 2 (.seq (.region [⟨(.some 116), (.iaddr 4 (.t 112) (.t 114)), .none⟩,
   ⟨(.some 117), (.load .true 4 (.t 116) .false), .none⟩,
   ⟨(.some 11), (.alloc [(.d (.int .u8 0)), (.d (.int .i64 0)), (.full []), (.full [])]), .none⟩,
   ⟨.none, (.store 4 (.t 11) (.t 117)), .none⟩])
 c37_32))
abbrev c37_30 : PCode :=
 (.keep [1, 2, 112, 113, 114] (.block 1 (.loop (.some [1, 2, 112, 113, 114]) (.seq (.region [⟨(.some 115), (.bin .lss (.t 114) (.t 113)), .none⟩])
 (.seq (.cond (.t 115)
  .skip
  (.exit 1))
 (.seq c37_31
 (.region [⟨(.some 126), (.bin .add (.t 114) (.c (.d (.int .i64 1)))), .none⟩,
   ⟨(.some 114), (.mov (.t 126)), .none⟩])))))))
abbrev c37_36 : PCode :=
 (.seq (.region [⟨(.some 6), (.mov (.c (.d (.int .i64 0)))), .none⟩])
 .ret)
abbrev c37_29 : PCode :=
 (.keep [1, 2, 3] (.seq (.seq (.region [⟨(.some 111), (.faddr 3 (.t 3)), .none⟩,
   ⟨(.some 112), (.load .false 1 (.t 111) .false), .none⟩,
   ⟨(.some 113), (.len (.t 112)), .none⟩,
   ⟨(.some 114), (.mov (.c (.d (.int .i64 0)))), .none⟩])
 c37_30)
 c37_36))
abbrev c37_26 : PCode :=
 (.keep [1, 2, 3] (.seq (.seq (.region [⟨(.some 99), (.faddr 0 (.t 3)), .none⟩,
   ⟨(.some 100), (.load .false 1 (.t 99) .false), .none⟩,
   ⟨(.some 101), (.bin .eql (.t 100) (.c (.d (.int .u8 9)))), .none⟩,
   ⟨(.some 102), (.mov (.t 101)), .none⟩,
   ⟨(.some 103), (.mov (.t 2)), (.some (102, .true))⟩,
   ⟨(.some 104), (.faddr 2 (.t 3)), (.some (102, .true))⟩,
   ⟨(.some 105), (.load .false 1 (.t 104) .false), (.some (102, .true))⟩,
   ⟨(.some 106), (.iaddr 1 (.t 105) (.c (.d (.int .i64 0)))), (.some (102, .true))⟩,
   ⟨(.some 107), (.load .false 1 (.t 106) .false), (.some (102, .true))⟩,
   ⟨(.some 108), (.callp 36 [(.t 103), (.t 107)]), (.some (102, .true))⟩,
   ⟨(.some 109), (.not (.t 108)), (.some (102, .true))⟩,
   ⟨(.some 110), (.pick (.t 102) (.t 109) (.c (.d (.bool .false)))), .none⟩])
 c37_27)
 c37_29))
abbrev c37_20 : PCode :=
 (.keep [1, 2, 3] (.seq (.seq (.region [⟨(.some 85), (.faddr 0 (.t 3)), .none⟩,
   ⟨(.some 86), (.load .false 1 (.t 85) .false), .none⟩,
   ⟨(.some 87), (.bin .geq (.t 86) (.c (.d (.int .u8 6)))), .none⟩,
   ⟨(.some 88), (.mov (.t 87)), .none⟩,
   ⟨(.some 89), (.faddr 0 (.t 3)), (.some (88, .true))⟩,
   ⟨(.some 90), (.load .false 1 (.t 89) .false), (.some (88, .true))⟩,
   ⟨(.some 91), (.bin .leq (.t 90) (.c (.d (.int .u8 8)))), (.some (88, .true))⟩,
   ⟨(.some 92), (.pick (.t 88) (.t 91) (.c (.d (.bool .false)))), .none⟩])
 c37_21)
 c37_26))
abbrev c37_17 : PCode :=
 (.keep [1, 2, 3, 8] (.seq (.seq (.region [⟨(.some 58), (.faddr 3 (.t 3)), .none⟩,
   ⟨(.some 59), (.load .false 1 (.t 58) .false), .none⟩,
   ⟨(.some 60), (.len (.t 59)), .none⟩,
   ⟨(.some 61), (.mov (.t 8)), .none⟩,
   ⟨(.some 62), (.bin .neq (.t 60) (.t 61)), .none⟩,
   ⟨(.some 63), (.mov (.t 62)), .none⟩,
   ⟨(.some 64), (.faddr 0 (.t 3)), (.some (63, .false))⟩,
   ⟨(.some 65), (.load .false 1 (.t 64) .false), (.some (63, .false))⟩,
   ⟨(.some 66), (.bin .leq (.t 65) (.c (.d (.int .u8 5)))), (.some (63, .false))⟩,
   ⟨(.some 67), (.mov (.t 66)), (.some (63, .false))⟩,
   ⟨(.some 68), (.faddr 2 (.t 3)), (.some (67, .true))⟩,
   ⟨(.some 69), (.load .false 1 (.t 68) .false), (.some (67, .true))⟩,
   ⟨(.some 70), (.len (.t 69)), (.some (67, .true))⟩,
   ⟨(.some 71), (.bin .gtr (.t 70) (.c (.d (.int .i64 0)))), (.some (67, .true))⟩,
   ⟨(.some 72), (.pick (.t 67) (.t 71) (.c (.d (.bool .false)))), (.some (63, .false))⟩,
   ⟨(.some 73), (.pick (.t 63) (.c (.d (.bool .true))) (.t 72)), .none⟩,
   ⟨(.some 74), (.mov (.t 73)), .none⟩,
   ⟨(.some 75), (.faddr 0 (.t 3)), (.some (74, .false))⟩,
   ⟨(.some 76), (.load .false 1 (.t 75) .false), (.some (74, .false))⟩,
   ⟨(.some 77), (.bin .eql (.t 76) (.c (.d (.int .u8 9)))), (.some (74, .false))⟩,
   ⟨(.some 78), (.mov (.t 77)), (.some (74, .false))⟩,
   ⟨(.some 79), (.faddr 2 (.t 3)), (.some (78, .true))⟩,
   ⟨(.some 80), (.load .false 1 (.t 79) .false), (.some (78, .true))⟩,
   ⟨(.some 81), (.len (.t 80)), (.some (78, .true))⟩,
   ⟨(.some 82), (.bin .neq (.t 81) (.c (.d (.int .i64 1)))), (.some (78, .true))⟩,
   ⟨(.some 83), (.pick (.t 78) (.t 82) (.c (.d (.bool .false)))), (.some (74, .false))⟩,
   ⟨(.some 84), (.pick (.t 74) (.c (.d (.bool .true))) (.t 83)), .none⟩])
 c37_18)
 c37_20))
abbrev c37_8 : PCode :=
 (.seq (.seq (.region [⟨(.some 48), (.faddr 0 (.t 3)), .none⟩,
   ⟨(.some 49), (.load .false 1 (.t 48) .false), .none⟩])
 c37_9)
 c37_17)
abbrev c37_7 : PCode :=
 (.keep [1, 2, 3] (.seq (.region [⟨(.some 8), (.mov (.c (.d (.int .i64 0)))), .none⟩])
 c37_8))
abbrev c37_4 : PCode :=
 (.keep [1, 2, 3, 7] (.seq (.seq (.region [⟨(.some 28), (.mov (.t 7)), .none⟩,
   ⟨(.some 29), (.mov (.t 28)), .none⟩,
   ⟨(.some 30), (.faddr 1 (.t 3)), (.some (29, .true))⟩,
   ⟨(.some 31), (.load .false 1 (.t 30) .false), (.some (29, .true))⟩,
   ⟨(.some 32), (.bin .lss (.t 31) (.c (.d (.int .i64 1)))), (.some (29, .true))⟩,
   ⟨(.some 33), (.mov (.t 32)), (.some (29, .true))⟩,
   ⟨(.some 34), (.faddr 1 (.t 3)), (.some (33, .false))⟩,
   ⟨(.some 35), (.load .false 1 (.t 34) .false), (.some (33, .false))⟩,
   ⟨(.some 36), (.bin .gtr (.t 35) (.c (.d (.int .i64 60)))), (.some (33, .false))⟩,
   ⟨(.some 37), (.pick (.t 33) (.c (.d (.bool .true))) (.t 36)), (.some (29, .true))⟩,
   ⟨(.some 38), (.pick (.t 29) (.t 37) (.c (.d (.bool .false)))), .none⟩,
   ⟨(.some 39), (.mov (.t 38)), .none⟩,
   ⟨(.some 40), (.mov (.t 7)), (.some (39, .false))⟩,
   ⟨(.some 41), (.not (.t 40)), (.some (39, .false))⟩,
   ⟨(.some 42), (.mov (.t 41)), (.some (39, .false))⟩,
   ⟨(.some 43), (.faddr 1 (.t 3)), (.some (42, .true))⟩,
   ⟨(.some 44), (.load .false 1 (.t 43) .false), (.some (42, .true))⟩,
   ⟨(.some 45), (.bin .neq (.t 44) (.c (.d (.int .i64 0)))), (.some (42, .true))⟩,
   ⟨(.some 46), (.pick (.t 42) (.t 45) (.c (.d (.bool .false)))), (.some (39, .false))⟩,
   ⟨(.some 47), (.pick (.t 39) (.c (.d (.bool .true))) (.t 46)), .none⟩])
 c37_5)
 c37_7))
abbrev c37_3 : PCode :=
 (.keep [1, 2, 3] (.seq (.region [⟨(.some 20), (.faddr 0 (.t 3)), .none⟩,
   ⟨(.some 21), (.load .false 1 (.t 20) .false), .none⟩,
   ⟨(.some 22), (.bin .eql (.t 21) (.c (.d (.int .u8 4)))), .none⟩,
   ⟨(.some 23), (.mov (.t 22)), .none⟩,
   ⟨(.some 24), (.faddr 0 (.t 3)), (.some (23, .false))⟩,
   ⟨(.some 25), (.load .false 1 (.t 24) .false), (.some (23, .false))⟩,
   ⟨(.some 26), (.bin .eql (.t 25) (.c (.d (.int .u8 5)))), (.some (23, .false))⟩,
   ⟨(.some 27), (.pick (.t 23) (.c (.d (.bool .true))) (.t 26)), .none⟩,
   ⟨(.some 7), (.mov (.t 27)), .none⟩])
 c37_4))
abbrev c37_0 : PCode :=
 (.seq (.seq (.region [⟨(.some 13), (.faddr 0 (.t 3)), .none⟩,
   ⟨(.some 14), (.load .false 1 (.t 13) .false), .none⟩,
   ⟨(.some 15), (.bin .geq (.t 14) (.c (.d (.int .u8 10)))), .none⟩,
   ⟨(.some 16), (.mov (.t 15)), .none⟩,
   ⟨(.some 17), (.mov (.t 1)), (.some (16, .false))⟩,
   ⟨(.some 18), (.bin .lss (.t 17) (.c (.d (.int .i64 1)))), (.some (16, .false))⟩,
   ⟨(.some 19), (.pick (.t 16) (.c (.d (.bool .true))) (.t 18)), .none⟩])
 c37_1)
 c37_3)
def c37 : PFun := ⟨
 (.seq (.region [⟨(.some 3), (.box 4 (.t 0)), .none⟩,
   ⟨(.some 6), (.mov (.c (.d (.int .i64 0)))), .none⟩])
 c37_0),
 3, 127, [(.tmp 6)]⟩

theorem e62 : entered Tryd.prog 62 = true := by kernel_rfl
theorem k62 : compFun Tryd.prog (fun _ => 1) 62 = some c62.er := by kernel_rfl
theorem e37 : entered Tryd.prog 37 = true := by kernel_rfl
theorem k37 : compFun Tryd.prog (fun _ => 1) 37 = some c37.er := by kernel_rfl


theorem C62 (l : List ByteArray) (hl : fitS l) : Pure (PCalls Tryd.prog GK) 62 [.d (strs l)] (i64 (namesM l)) := by
  intro st
  refine pcalls_of k62 e62 (of_decide_eq_true rfl) ?_; dsimp only [c62]
  refine gor0 ?_
  refine pcond_b rfl (fun h => ?_) (fun h => ?_)
  · refine gor0 ?_
    refine pfin_pure ?_ (.refl _)
    simp only [Bool.or_eq_true, decide_eq_true_eq] at h
    rw [namesM, if_pos (by omega)]
    rfl
  simp only [Bool.or_eq_false_iff, decide_eq_false_iff_not] at h
  refine gor0 ?_
  refine prange l.length (by omega) (fun k => put (put (put (put (fun _ => .undef) (some 15) (i64 k)) (some 14) (i64 l.length)) (some 13) (.d (strs l))) (some 0) (.d (strs l))) (fun _ => st) (fun k => namesE l k = 0) rfl rfl rfl (fun k => rfl) (fun k => rfl) ?_ ?_
  · intro hI
    refine gor0 ?_
    refine pfin_pure ?_ (.refl _)
    rw [namesM, if_neg (by omega), hI]
    rfl
  · intro k hk hI
    have hg : l.getD k (bs []) = l[k] := by rw [List.getD_eq_getElem?_getD, List.getElem?_eq_getElem hk]; rfl
    refine pblock ?_
    refine gor0 ?_
    refine po rfl (iaddr_strs rfl rfl hk) ?_
    refine gor0 ?_
    refine po_callp rfl (C33 _ (Nat.lt_of_lt_of_le (hl.2 _ (List.getElem_mem hk)) (by decide))) ?_
    refine gor0 ?_
    refine pcond_b rfl (fun h1 => ?_) (fun h1 => ?_)
    · refine gor0 ?_
      refine pfin_pure ?_ (.refl _)
      rw [namesM, if_neg (by omega), namesE_stays (j := k + 1) ?_ _ (by omega)]
      · simp only [namesE, hI, hg]; simp at h1; simp [h1]; rfl
      · simp only [namesE, hI, hg]; simp at h1; simp [h1]
    · refine gor0 ?_
      refine po rfl (slc_rows (j := k) rfl rfl (by rw [len_srows]; omega)) ?_
      rw [show (srows l).take k = srows (l.take k) from List.map_take.symm]
      refine gor0 ?_
      refine po_callp rfl (C36 (l.take k) l[k] (by rw [List.length_take]; have := hl.1; omega)) ?_
      refine gor0 ?_
      refine pcond_b rfl (fun h2 => ?_) (fun h2 => ?_)
      · refine gor0 ?_
        refine pfin_pure ?_ (.refl _)
        rw [namesM, if_neg (by omega), namesE_stays (j := k + 1) ?_ _ (by omega)]
        · simp only [namesE, hI, hg]; simp at h1; simp [h1, h2]; rfl
        · simp only [namesE, hI, hg]; simp at h1; simp [h1, h2]
      · refine gor0 ?_
        ((repeat' (with_reducible apply And.intro)) <;> (try (first | trivial | rfl)))
        simp only [namesE, hI, hg]; simp at h1; simp [h1, h2]

theorem C37 (t : KT) : ∀ (deep : Int) (known : List ByteArray), t.fit → known.length < 2 ^ 60 → -2 ^ 60 < deep ∧ deep < 2 ^ 60 → Pure (PCalls Tryd.prog GK) 37 [t.av, .d (.int .i64 deep), .d (strs known)] (i64 (t.check deep known)) := by
  induction t using KT.ind with
  | h k m n o ih =>
  intro deep known hfit hkn hd st
  obtain ⟨hn, ho, hf⟩ := hfit
  refine pcalls_of k37 e37 (of_decide_eq_true rfl) ?_; dsimp only [c37]
  refine gor0 ?_
  refine po_box (cells := [.d (.int .u8 k), .d (.int .i64 m), .d (strs n), .d (.sl (KT.rows o))]) rfl rfl fun b hb => ?_
  refine gor0 ?_
  have hle : st.le (st.setBox b [.d (.int .u8 k), .d (.int .i64 m), .d (strs n), .d (.sl (KT.rows o))]) := (St.le.refl _).setBox _ hb.1
  clear hb
  refine pcond_b rfl (fun h => ?_) (fun h => ?_)
  · refine gor0 ?_
    refine pfin_pure (congrArg (fun z => some (i64 z)) ?_) hle
    simp at h
    have : formE k m n o.length deep = 5 := by rw [formE, if_pos h]
    simp [KT.check, this]
  simp at h
  refine gor0 ?_

  refine pcond_b rfl (fun h1 => ?_) (fun h1 => ?_)
  · refine gor0 ?_
    refine pfin_pure (congrArg (fun z => some (i64 z)) ?_) hle
    simp at h1
    have : formE k m n o.length deep = 2 := by rw [formE, if_neg (by omega), if_pos (by omega)]
    simp [KT.check, this]
  simp at h1
  refine gor0 ?_
  refine pjoin (fun s t => s = put (put (put (put (fun _ => .undef) (some 8) (i64 (manyOf k n))) (some 3) (ptrAt b)) (some 2) (.d (strs known))) (some 1) (.d (.int .i64 deep)) ∧
    t = st.setBox b [.d (.int .u8 k), .d (.int .i64 m), .d (strs n), .d (.sl (KT.rows o))]) ?_ ?_
  · refine gor0 ?_
    refine pblock ?_
    refine gor0 ?_
    refine pcond_b rfl (fun h2 => ?_) (fun h2 => ?_)
    · refine gor0 ?_
      have : k = 5 := by simpa using h2
      refine ⟨by rw [manyOf, if_pos this]; rfl, by first | trivial | rfl⟩
    · have n5 : k ≠ 5 := by simpa using h2
      refine gor0 ?_
      refine pjoin (fun s t => s = put (put (put (put (put (fun _ => .undef) (some 52) (b2 (decide (k = 6 ∨ k = 8)))) (some 8) (i64 0)) (some 3) (ptrAt b)) (some 2) (.d (strs known))) (some 1) (.d (.int .i64 deep)) ∧
        t = st.setBox b [.d (.int .u8 k), .d (.int .i64 m), .d (strs n), .d (.sl (KT.rows o))]) ?_ ?_
      · refine gor0 ?_
        refine pcond_b rfl (fun h3 => ?_) (fun h3 => ?_)
        · refine gor0 ?_
          have : k = 6 := by simpa using h3
          refine ⟨?_, by first | trivial | rfl⟩
          rw [show (k == 6) = decide (k = 6 ∨ k = 8) by simp [this]]
          rfl
        · refine gor0 ?_
          have : k ≠ 6 := by simpa using h3
          refine ⟨?_, by first | trivial | rfl⟩
          rw [show (k == 8) = decide (k = 6 ∨ k = 8) by simp [this]; rfl]
          rfl
      · rintro s t ⟨rfl, rfl⟩
        refine gor0 ?_
        refine pcond_b rfl (fun h3 => ?_) (fun h3 => ?_)
        · refine gor0 ?_
          refine ⟨?_, by first | trivial | rfl⟩
          rw [show manyOf k n = n.length by rw [manyOf, if_neg n5, if_pos (by simpa using h3)]]
          rfl
        · refine gor0 ?_
          refine ⟨?_, by first | trivial | rfl⟩
          rw [show manyOf k n = 0 by rw [manyOf, if_neg n5, if_neg (by simpa using h3)]]
          rfl
  · rintro s t ⟨rfl, rfl⟩
    refine gor0 ?_
    refine pcond_b rfl (fun h2 => ?_) (fun h2 => ?_)
    · refine gor0 ?_
      refine pfin_pure (congrArg (fun z => some (i64 z)) ?_) hle
      simp [KT.rows_len] at h2
      have : formE k m n o.length deep = 4 := by rw [formE, if_neg (by omega), if_neg (by omega), if_pos (by omega)]
      simp [KT.check, this]
    simp [KT.rows_len] at h2
    have h20 : n.length > 0 → ¬ k ≤ 5 := fun h e => by rw [h2.1.2 e] at h; simp at h
    have hform : formE k m n o.length deep = 0 := by rw [formE, if_neg (by omega), if_neg (by omega), if_neg (by omega)]
    refine gor0 ?_
    refine pjoin (fun s t => (s = put (put (put (fun _ => .undef) (some 3) (ptrAt b)) (some 2) (.d (strs known))) (some 1) (.d (.int .i64 deep)) ∧
      t = st.setBox b [.d (.int .u8 k), .d (.int .i64 m), .d (strs n), .d (.sl (KT.rows o))]) ∧ ¬ (6 ≤ k ∧ k ≤ 8 ∧ namesM n ≠ 0)) ?_ ?_
    · refine gor0 ?_
      refine pcond_b rfl (fun h3 => ?_) (fun h3 => ?_)
      · simp at h3
        refine gor0 ?_
        refine po_callp rfl (C62 n hn) ?_
        refine gor0 ?_
        refine pcond_b rfl (fun h4 => ?_) (fun h4 => ?_)
        · refine gor0 ?_
          refine pfin_pure (congrArg (fun z => some (i64 z)) ?_) hle
          simp at h4
          have : nameE k n known = namesM n := by rw [nameE, if_pos ⟨h3.1, h3.2, h4⟩]
          simp [KT.check, hform, this, h4]
        · refine gor0 ?_
          simp at h4
          exact ⟨by first | trivial | exact ⟨rfl, rfl⟩, fun h => h.2.2 h4⟩
      · simp at h3
        refine gor0 ?_
        exact ⟨by first | trivial | exact ⟨rfl, rfl⟩, fun h => absurd h.2.1 (by have := h3 h.1; omega)⟩
    · rintro s t ⟨⟨rfl, rfl⟩, h3⟩
      refine gor0 ?_
      apply po_g
      · (first | exact wt0 rfl | exact wf0 rfl | exact wt1 rfl | exact wf1 rfl)
      · intro hw
        refine does_N rfl (iaddr_strsD (l := n) (k := 0) ?_ ?_ ?_)
        · (first | rfl | (simp +decide only [pvc, hw]; done) | (simp +decide only [pvc, hw]; rfl))
        · (first | rfl | (simp +decide only [pvc, hw]; done) | (simp +decide only [pvc, hw]; rfl))
        · have : k = 9 := by simpa using hw
          omega
      refine gor0 ?_
      apply po_g
      · (first | exact wt0 rfl | exact wf0 rfl | exact wt1 rfl | exact wf1 rfl)
      · intro hw
        refine does_callp ?_ (C36 known (n.getD 0 (bs [])) (by omega))
        (first | rfl | (simp +decide only [pvc, hw]; done) | (simp +decide only [pvc, hw]; rfl))
      refine gor0 ?_
      refine pcond_b rfl (fun h4 => ?_) (fun h4 => ?_)
      · refine gor0 ?_
        refine pfin_pure (congrArg (fun z => some (i64 z)) ?_) hle
        simp at h4
        have : nameE k n known = 10 := by rw [nameE, if_neg h3, if_pos ⟨h4.1, by simpa using h4.2⟩]
        simp [KT.check, hform, this]
      simp at h4
      have hname : nameE k n known = 0 := by
        rw [nameE, if_neg h3, if_neg (fun e => by have := h4 e.1; rw [List.getD_eq_getElem?_getD] at e; simp [this] at e)]
      refine gor0 ?_
      rw [KT.rows_len]
      refine prangeL o.length (by omega) (fun k => put (put (put (put (put (fun _ => .undef) (some 114) (i64 k)) (some 113) (i64 o.length)) (some 112) (.d (.sl (KT.rows o)))) (some 2) (.d (strs known))) (some 1) (.d (.int .i64 deep)))
        (fun t => st.le t) (fun i => ∀ u ∈ o.take i, u.check (deep - 1) known = 0) (by simp) rfl hle (fun k => rfl) (fun k => rfl) ?_ ?_
      · intro t hle hI
        rw [List.take_length] at hI
        refine gor0 ?_
        refine pfin_pure (congrArg (fun z => some (i64 z)) ?_) hle
        simp [KT.check, hform, hname, KT.checks_zero.2 hI]
      · intro i hi t hle hI
        have hrow : (KT.rows o)[i]'(by rw [KT.rows_len]; exact hi) = o[i].row := by simp [KT.rows_map]
        have hmem := List.getElem_mem hi
        have hx := ih o[i] hmem (deep - 1) known (KT.fits_mem hf _ hmem) hkn (by omega)
        have hfirst := KT.checks_first (known := known) hi hI
        have htake : ∀ P : KT → Prop, (∀ u ∈ o.take i, P u) → P o[i] → ∀ u ∈ o.take (i + 1), P u := by
          intro P h1 h2 u hu
          rw [List.take_succ_eq_append_getElem hi, List.mem_append, List.mem_singleton] at hu
          rcases hu with hu | rfl
          · exact h1 u hu
          · exact h2
        have hw : IntKind.i64.wrap (deep - 1) = deep - 1 := IntWalk.i64_in _ (by omega)
        refine pblock ?_
        refine gor0 ?_
        refine po rfl (iaddr_rows (v := .d (.sl (KT.rows o))) rfl rfl rfl (by rw [KT.rows_len]; exact hi) (by rw [hrow]; exact KT.row_len _)) ?_
        rw [hrow]
        generalize o[i] = x at *
        obtain ⟨k', m', n', o'⟩ := x
        refine gor0 ?_
        refine po_alloc fun b' hb' => ?_
        have hle' := hle.setBox [.d (.int .u8 k'), .d (.int .i64 m'), .d (strs n'), .d (.sl (KT.rows o'))] (b := b') (by
          cases e : st.box b' with
          | none => rfl
          | some l => have := hle.box _ _ e; rw [hb'.1] at this; cases this)
        clear hb'
        refine gor0 ?_
        refine gnm0 ?_; rw [hw]
        refine po_callp rfl hx ?_
        refine gor0 ?_
        refine pcond_b rfl (fun h5 => ?_) (fun h5 => ?_)
        · simp at h5
          refine gor0 ?_
          refine pfin_pure (congrArg (fun z => some (i64 z)) ?_) hle'
          simp [KT.check, hform, hname, hfirst h5]
        · simp at h5
          refine gor0 ?_
          ((repeat' (with_reducible apply And.intro)) <;> (try (first | trivial | rfl)))
          all_goals first | exact htake _ hI h5 | exact hle'
end Go.Pv
