/- Functions of the program, by value. No condition. -/
import Derived.Test.YtidelhpljjjjmaaV11
import Derived.Test.YtidelhpljjjjmaaE1
namespace Go.Pv
open Go.Proofs
set_option maxRecDepth 100000
set_option maxHeartbeats 8000000

/-- prompter/prompterref08.Is -/
abbrev c19_2 : PCode :=
 (.seq (.region [⟨(.some 4), (.mov (.c (.d (.bool .false)))), .none⟩])
 .ret)
abbrev c19_1 : PCode :=
 (.cond (.t 27)
  c19_2
  .skip)
abbrev c19_7 : PCode :=
 (.seq (.region [⟨(.some 4), (.mov (.c (.d (.bool .false)))), .none⟩])
 .ret)
abbrev c19_6 : PCode :=
 (.cond (.t 39)
  c19_7
  .skip)
abbrev c19_5 : PCode :=
 (.seq (.region [⟨(.some 36), (.faddr 3 (.t 3)), .none⟩,
   ⟨(.some 37), (.load .false 1 (.t 36) .false), .none⟩,
   ⟨(.some 38), (.len (.t 37)), .none⟩,
   ⟨(.some 39), (.bin .gtr (.t 38) (.c (.d (.int .i64 0)))), .none⟩])
 c19_6)
abbrev c19_4 : PCode :=
 (.cond (.t 35)
  c19_5
  .skip)
abbrev c19_11 : PCode :=
 (.region [⟨(.some 6), (.mov (.c (.d (.int .i64 1)))), .none⟩])
abbrev c19_10 : PCode :=
 (.cond (.t 42)
  c19_11
  .skip)
abbrev c19_14 : PCode :=
 (.region [⟨(.some 6), (.mov (.c (.d (.int .i64 65535)))), .none⟩])
abbrev c19_13 : PCode :=
 (.cond (.t 45)
  c19_14
  .skip)
abbrev c19_17 : PCode :=
 (.region [⟨(.some 5), (.mov (.c (.d (.int .i64 (-2147483648))))), .none⟩,
   ⟨(.some 6), (.mov (.c (.d (.int .i64 2147483647)))), .none⟩])
abbrev c19_16 : PCode :=
 (.cond (.t 48)
  c19_17
  .skip)
abbrev c19_20 : PCode :=
 (.region [⟨(.some 52), (.faddr 2 (.t 2)), .none⟩,
   ⟨(.some 53), (.load .false 1 (.t 52) .false), .none⟩,
   ⟨(.some 54), (.bin .sub (.t 53) (.c (.d (.int .i64 1)))), .none⟩,
   ⟨(.some 6), (.mov (.t 54)), .none⟩])
abbrev c19_19 : PCode :=
 (.cond (.t 51)
  c19_20
  .skip)
abbrev c19_23 : PCode :=
 (.region [⟨(.some 58), (.faddr 3 (.t 2)), .none⟩,
   ⟨(.some 59), (.load .false 1 (.t 58) .false), .none⟩,
   ⟨(.some 60), (.len (.t 59)), .none⟩,
   ⟨(.some 61), (.bin .sub (.t 60) (.c (.d (.int .i64 1)))), .none⟩,
   ⟨(.some 6), (.mov (.t 61)), .none⟩])
abbrev c19_22 : PCode :=
 (.cond (.t 57)
  c19_23
  .skip)
abbrev c19_26 : PCode :=
 (.seq (.region [⟨(.some 4), (.mov (.c (.d (.bool .false)))), .none⟩])
 .ret)
abbrev c19_25 : PCode :=
 (.cond (.t 97)
  c19_26
  .skip)
abbrev c19_29 : PCode :=
 (.seq (.region [⟨(.some 4), (.mov (.c (.d (.bool .false)))), .none⟩])
 .ret)
abbrev c19_28 : PCode :=
 (.cond (.t 120)
  c19_29
  .skip)
abbrev c19_33 : PCode :=
 (.exit 0)
abbrev c19_32 : PCode :=
 (.cond (.t 125)
  .skip
  c19_33)
abbrev c19_37 : PCode :=
 (.region [⟨(.some 131), (.mov (.t 7)), .none⟩,
   ⟨(.some 8), (.mov (.t 131)), .none⟩])
abbrev c19_36 : PCode :=
 (.cond (.t 130)
  c19_37
  .skip)
abbrev c19_40 : PCode :=
 (.region [⟨(.some 135), (.faddr 0 (.t 3)), .none⟩,
   ⟨(.some 136), (.load .false 1 (.t 135) .false), .none⟩,
   ⟨(.some 8), (.mov (.t 136)), .none⟩])
abbrev c19_39 : PCode :=
 (.cond (.t 134)
  c19_40
  .skip)
abbrev c19_43 : PCode :=
 (.seq (.region [⟨(.some 4), (.mov (.c (.d (.bool .false)))), .none⟩])
 .ret)
abbrev c19_42 : PCode :=
 (.cond (.t 148)
  c19_43
  .skip)
abbrev c19_41 : PCode :=
 (.keep [2, 3, 7, 8] (.seq (.region [⟨(.some 137), (.faddr 3 (.t 2)), .none⟩,
   ⟨(.some 138), (.load .false 1 (.t 137) .false), .none⟩,
   ⟨(.some 139), (.mov (.t 8)), .none⟩,
   ⟨(.some 140), (.iaddr 4 (.t 138) (.t 139)), .none⟩,
   ⟨(.some 141), (.load .true 4 (.t 140) .false), .none⟩,
   ⟨(.some 142), (.faddr 3 (.t 3)), .none⟩,
   ⟨(.some 143), (.load .false 1 (.t 142) .false), .none⟩,
   ⟨(.some 144), (.mov (.t 7)), .none⟩,
   ⟨(.some 145), (.iaddr 4 (.t 143) (.t 144)), .none⟩,
   ⟨(.some 146), (.load .true 4 (.t 145) .false), .none⟩,
   ⟨(.some 147), (.call0 19 [(.t 141), (.t 146)]), .none⟩,
   ⟨(.some 148), (.not (.t 147)), .none⟩])
 c19_42))
abbrev c19_38 : PCode :=
 (.keep [2, 3, 7, 8] (.seq (.seq (.region [⟨(.some 132), (.faddr 0 (.t 2)), .none⟩,
   ⟨(.some 133), (.load .false 1 (.t 132) .false), .none⟩,
   ⟨(.some 134), (.bin .eql (.t 133) (.c (.d (.int .i64 8)))), .none⟩])
 c19_39)
 c19_41))
abbrev c19_35 : PCode :=
 (.seq (.seq (.region [⟨(.some 128), (.faddr 0 (.t 2)), .none⟩,
   ⟨(.some 129), (.load .false 1 (.t 128) .false), .none⟩,
   ⟨(.some 130), (.bin .eql (.t 129) (.c (.d (.int .i64 6)))), .none⟩])
 c19_36)
 c19_38)
abbrev c19_44 : PCode :=
 (.region [⟨(.some 126), (.mov (.t 7)), .none⟩,
   ⟨(.some 127), (.bin .add (.t 126) (.c (.d (.int .i64 1)))), .none⟩,
   ⟨(.some 7), (.mov (.t 127)), .none⟩])
abbrev c19_34 : PCode :=
 (.seq (.block 1 (.seq (.region [⟨(.some 8), (.mov (.c (.d (.int .i64 0)))), .none⟩])
 c19_35))
 c19_44)
abbrev c19_31 : PCode :=
 (.block 0 (.loop (.some [7, 2, 3]) (.seq (.seq (.region [⟨(.some 121), (.mov (.t 7)), .none⟩,
   ⟨(.some 122), (.faddr 3 (.t 3)), .none⟩,
   ⟨(.some 123), (.load .false 1 (.t 122) .false), .none⟩,
   ⟨(.some 124), (.len (.t 123)), .none⟩,
   ⟨(.some 125), (.bin .lss (.t 121) (.t 124)), .none⟩])
 c19_32)
 c19_34)))
abbrev c19_45 : PCode :=
 (.seq (.region [⟨(.some 4), (.mov (.c (.d (.bool .true)))), .none⟩])
 .ret)
abbrev c19_30 : PCode :=
 (.keep [2, 3] (.seq (.seq (.region [⟨(.some 7), (.mov (.c (.d (.int .i64 0)))), .none⟩])
 c19_31)
 c19_45))
abbrev c19_27 : PCode :=
 (.keep [2, 3] (.seq (.seq (.region [⟨(.some 98), (.faddr 0 (.t 2)), .none⟩,
   ⟨(.some 99), (.load .false 1 (.t 98) .false), .none⟩,
   ⟨(.some 100), (.bin .eql (.t 99) (.c (.d (.int .i64 6)))), .none⟩,
   ⟨(.some 101), (.mov (.t 100)), .none⟩,
   ⟨(.some 102), (.faddr 3 (.t 3)), (.some (101, .true))⟩,
   ⟨(.some 103), (.load .false 1 (.t 102) .false), (.some (101, .true))⟩,
   ⟨(.some 104), (.len (.t 103)), (.some (101, .true))⟩,
   ⟨(.some 105), (.faddr 3 (.t 2)), (.some (101, .true))⟩,
   ⟨(.some 106), (.load .false 1 (.t 105) .false), (.some (101, .true))⟩,
   ⟨(.some 107), (.len (.t 106)), (.some (101, .true))⟩,
   ⟨(.some 108), (.bin .neq (.t 104) (.t 107)), (.some (101, .true))⟩,
   ⟨(.some 109), (.pick (.t 101) (.t 108) (.c (.d (.bool .false)))), .none⟩,
   ⟨(.some 110), (.mov (.t 109)), .none⟩,
   ⟨(.some 111), (.faddr 0 (.t 2)), (.some (110, .false))⟩,
   ⟨(.some 112), (.load .false 1 (.t 111) .false), (.some (110, .false))⟩,
   ⟨(.some 113), (.bin .eql (.t 112) (.c (.d (.int .i64 8)))), (.some (110, .false))⟩,
   ⟨(.some 114), (.mov (.t 113)), (.some (110, .false))⟩,
   ⟨(.some 115), (.faddr 3 (.t 3)), (.some (114, .true))⟩,
   ⟨(.some 116), (.load .false 1 (.t 115) .false), (.some (114, .true))⟩,
   ⟨(.some 117), (.len (.t 116)), (.some (114, .true))⟩,
   ⟨(.some 118), (.bin .neq (.t 117) (.c (.d (.int .i64 1)))), (.some (114, .true))⟩,
   ⟨(.some 119), (.pick (.t 114) (.t 118) (.c (.d (.bool .false)))), (.some (110, .false))⟩,
   ⟨(.some 120), (.pick (.t 110) (.c (.d (.bool .true))) (.t 119)), .none⟩])
 c19_28)
 c19_30))
abbrev c19_24 : PCode :=
 (.keep [2, 3, 5, 6] (.seq (.seq (.region [⟨(.some 62), (.faddr 0 (.t 3)), .none⟩,
   ⟨(.some 63), (.load .false 1 (.t 62) .false), .none⟩,
   ⟨(.some 64), (.mov (.t 5)), .none⟩,
   ⟨(.some 65), (.bin .lss (.t 63) (.t 64)), .none⟩,
   ⟨(.some 66), (.mov (.t 65)), .none⟩,
   ⟨(.some 67), (.faddr 0 (.t 3)), (.some (66, .false))⟩,
   ⟨(.some 68), (.load .false 1 (.t 67) .false), (.some (66, .false))⟩,
   ⟨(.some 69), (.mov (.t 6)), (.some (66, .false))⟩,
   ⟨(.some 70), (.bin .gtr (.t 68) (.t 69)), (.some (66, .false))⟩,
   ⟨(.some 71), (.pick (.t 66) (.c (.d (.bool .true))) (.t 70)), .none⟩,
   ⟨(.some 72), (.mov (.t 71)), .none⟩,
   ⟨(.some 73), (.faddr 0 (.t 2)), (.some (72, .false))⟩,
   ⟨(.some 74), (.load .false 1 (.t 73) .false), (.some (72, .false))⟩,
   ⟨(.some 75), (.bin .eql (.t 74) (.c (.d (.int .i64 4)))), (.some (72, .false))⟩,
   ⟨(.some 76), (.mov (.t 75)), (.some (72, .false))⟩,
   ⟨(.some 77), (.faddr 2 (.t 3)), (.some (76, .true))⟩,
   ⟨(.some 78), (.load .false 1 (.t 77) .false), (.some (76, .true))⟩,
   ⟨(.some 79), (.lenS (.t 78)), (.some (76, .true))⟩,
   ⟨(.some 80), (.faddr 1 (.t 2)), (.some (76, .true))⟩,
   ⟨(.some 81), (.load .false 1 (.t 80) .false), (.some (76, .true))⟩,
   ⟨(.some 82), (.bin .gtr (.t 79) (.t 81)), (.some (76, .true))⟩,
   ⟨(.some 83), (.pick (.t 76) (.t 82) (.c (.d (.bool .false)))), (.some (72, .false))⟩,
   ⟨(.some 84), (.pick (.t 72) (.c (.d (.bool .true))) (.t 83)), .none⟩,
   ⟨(.some 85), (.mov (.t 84)), .none⟩,
   ⟨(.some 86), (.faddr 0 (.t 2)), (.some (85, .false))⟩,
   ⟨(.some 87), (.load .false 1 (.t 86) .false), (.some (85, .false))⟩,
   ⟨(.some 88), (.bin .eql (.t 87) (.c (.d (.int .i64 5)))), (.some (85, .false))⟩,
   ⟨(.some 89), (.mov (.t 88)), (.some (85, .false))⟩,
   ⟨(.some 90), (.faddr 3 (.t 3)), (.some (89, .true))⟩,
   ⟨(.some 91), (.load .false 1 (.t 90) .false), (.some (89, .true))⟩,
   ⟨(.some 92), (.len (.t 91)), (.some (89, .true))⟩,
   ⟨(.some 93), (.faddr 1 (.t 2)), (.some (89, .true))⟩,
   ⟨(.some 94), (.load .false 1 (.t 93) .false), (.some (89, .true))⟩,
   ⟨(.some 95), (.bin .gtr (.t 92) (.t 94)), (.some (89, .true))⟩,
   ⟨(.some 96), (.pick (.t 89) (.t 95) (.c (.d (.bool .false)))), (.some (85, .false))⟩,
   ⟨(.some 97), (.pick (.t 85) (.c (.d (.bool .true))) (.t 96)), .none⟩])
 c19_25)
 c19_27))
abbrev c19_21 : PCode :=
 (.keep [2, 3, 5, 6] (.seq (.seq (.region [⟨(.some 55), (.faddr 0 (.t 2)), .none⟩,
   ⟨(.some 56), (.load .false 1 (.t 55) .false), .none⟩,
   ⟨(.some 57), (.bin .eql (.t 56) (.c (.d (.int .i64 8)))), .none⟩])
 c19_22)
 c19_24))
abbrev c19_18 : PCode :=
 (.keep [2, 3, 5, 6] (.seq (.seq (.region [⟨(.some 49), (.faddr 0 (.t 2)), .none⟩,
   ⟨(.some 50), (.load .false 1 (.t 49) .false), .none⟩,
   ⟨(.some 51), (.bin .eql (.t 50) (.c (.d (.int .i64 7)))), .none⟩])
 c19_19)
 c19_21))
abbrev c19_15 : PCode :=
 (.keep [2, 3, 5, 6] (.seq (.seq (.region [⟨(.some 46), (.faddr 0 (.t 2)), .none⟩,
   ⟨(.some 47), (.load .false 1 (.t 46) .false), .none⟩,
   ⟨(.some 48), (.bin .eql (.t 47) (.c (.d (.int .i64 2)))), .none⟩])
 c19_16)
 c19_18))
abbrev c19_12 : PCode :=
 (.keep [2, 3, 5, 6] (.seq (.seq (.region [⟨(.some 43), (.faddr 0 (.t 2)), .none⟩,
   ⟨(.some 44), (.load .false 1 (.t 43) .false), .none⟩,
   ⟨(.some 45), (.bin .eql (.t 44) (.c (.d (.int .i64 1)))), .none⟩])
 c19_13)
 c19_15))
abbrev c19_9 : PCode :=
 (.seq (.seq (.region [⟨(.some 40), (.faddr 0 (.t 2)), .none⟩,
   ⟨(.some 41), (.load .false 1 (.t 40) .false), .none⟩,
   ⟨(.some 42), (.bin .eql (.t 41) (.c (.d (.int .i64 0)))), .none⟩])
 c19_10)
 c19_12)
abbrev c19_8 : PCode :=
 (.keep [2, 3] (.seq (.region [⟨(.some 5), (.mov (.c (.d (.int .i64 0)))), .none⟩,
   ⟨(.some 6), (.mov (.c (.d (.int .i64 0)))), .none⟩])
 c19_9))
abbrev c19_3 : PCode :=
 (.keep [2, 3] (.seq (.seq (.region [⟨(.some 28), (.faddr 0 (.t 2)), .none⟩,
   ⟨(.some 29), (.load .false 1 (.t 28) .false), .none⟩,
   ⟨(.some 30), (.bin .lss (.t 29) (.c (.d (.int .i64 5)))), .none⟩,
   ⟨(.some 31), (.mov (.t 30)), .none⟩,
   ⟨(.some 32), (.faddr 0 (.t 2)), (.some (31, .false))⟩,
   ⟨(.some 33), (.load .false 1 (.t 32) .false), (.some (31, .false))⟩,
   ⟨(.some 34), (.bin .eql (.t 33) (.c (.d (.int .i64 7)))), (.some (31, .false))⟩,
   ⟨(.some 35), (.pick (.t 31) (.c (.d (.bool .true))) (.t 34)), .none⟩])
 c19_4)
 c19_8))
abbrev c19_0 : PCode :=
 (.keep [2, 3] (.seq (.seq (.region [⟨(.some 9), (.faddr 0 (.t 2)), .none⟩,
   ⟨(.some 10), (.load .false 1 (.t 9) .false), .none⟩,
   ⟨(.some 11), (.bin .neq (.t 10) (.c (.d (.int .i64 3)))), .none⟩,
   ⟨(.some 12), (.mov (.t 11)), .none⟩,
   ⟨(.some 13), (.faddr 1 (.t 3)), (.some (12, .true))⟩,
   ⟨(.some 14), (.load .false 1 (.t 13) .false), (.some (12, .true))⟩,
   ⟨(.some 15), (.call0 41 [(.t 14)]), (.some (12, .true))⟩,
   ⟨(.some 16), (.bin .neq (.t 15) (.c (.d (.int .u64 0)))), (.some (12, .true))⟩,
   ⟨(.some 17), (.pick (.t 12) (.t 16) (.c (.d (.bool .false)))), .none⟩,
   ⟨(.some 18), (.mov (.t 17)), .none⟩,
   ⟨(.some 19), (.faddr 0 (.t 2)), (.some (18, .false))⟩,
   ⟨(.some 20), (.load .false 1 (.t 19) .false), (.some (18, .false))⟩,
   ⟨(.some 21), (.bin .neq (.t 20) (.c (.d (.int .i64 4)))), (.some (18, .false))⟩,
   ⟨(.some 22), (.mov (.t 21)), (.some (18, .false))⟩,
   ⟨(.some 23), (.faddr 2 (.t 3)), (.some (22, .true))⟩,
   ⟨(.some 24), (.load .false 1 (.t 23) .false), (.some (22, .true))⟩,
   ⟨(.some 25), (.bin .neq (.t 24) (.c (.d (.str (bs []))))), (.some (22, .true))⟩,
   ⟨(.some 26), (.pick (.t 22) (.t 25) (.c (.d (.bool .false)))), (.some (18, .false))⟩,
   ⟨(.some 27), (.pick (.t 18) (.c (.d (.bool .true))) (.t 26)), .none⟩])
 c19_1)
 c19_3))
def c19 : PFun := ⟨
 (.seq (.region [⟨(.some 2), (.box 4 (.t 0)), .none⟩,
   ⟨(.some 3), (.box 4 (.t 1)), .none⟩,
   ⟨(.some 4), (.mov (.c (.d (.bool .false)))), .none⟩])
 c19_0),
 2, 149, [(.tmp 4)]⟩

theorem e19 : entered Try.prog 19 = true := by kernel_rfl
theorem k19 : compFun Try.prog (fun _ => 0) 19 = some c19.er := by kernel_rfl


theorem all_range {q : VT → Bool} : ∀ l : List VT, l.all q = (List.range l.length).all fun i => q (l.getD i VT.zero)
  | [] => rfl
  | x :: xs => by
    rw [List.length_cons, List.range_succ_eq_map, List.all_cons, List.all_cons, List.all_map, all_range xs]
    rfl
theorem zip_range {e : KT → VT → Bool} : ∀ (ts : List KT) (xs : List VT), xs.length = ts.length → allZip e ts xs = (List.range xs.length).all fun i => e (ts.getD i (.mk 0 0 [] [])) (xs.getD i VT.zero)
  | [], [], _ => rfl
  | t :: ts, x :: xs, h => by
    rw [List.length_cons, List.range_succ_eq_map, List.all_cons, List.all_map, allZip, zip_range ts xs (by simpa using h)]
    rfl
theorem isLoop (kk m nn : Int) (o : List KT) (v : VT) (hvl : v.of.length < 2 ^ 40) (ix : Nat → Nat) (p : Nat → Bool) (h6 : kk = 6 → ∀ i, i < v.of.length → ix i = i) (h8 : kk = 8 → ∀ i, i < v.of.length → v.n = ix i) (h0 : kk ≠ 6 → kk ≠ 8 → ∀ i, i < v.of.length → ix i = 0)
    (hp : ∀ i, i < v.of.length → ∃ y x, o[ix i]? = some y ∧ v.of[i]? = some x ∧ Pure (PCalls Try.prog GG) 19 [y.rav, x.av] (b2 (p i)))
    {st t : St} {p2 p3 : Nat} {Q : PEx → Slots → St → Prop} (hQ : pfin [PRes.tmp 4] (fun r st' => st' = st ∧ r = b2 ((List.range v.of.length).all p)) = Q)
    (hL : Lay st [.box p3 [.d (.int .i64 v.n), .d (.flt .f64 v.f), .d (.str v.s), .d (.sl (v.of.map VT.row))], .box p2 [.d (.int .i64 kk), .d (.int .i64 m), .d (.int .i64 nn), .d (.sl (o.map KT.rrow))]] t) :
    pwp GG (PCalls Try.prog GG) c19_31 (PEx.next (pwp GG (PCalls Try.prog GG) c19_45 Q) Q) (put (put (put (fun _ => .undef) (some 3) (ptrAt p3)) (some 2) (ptrAt p2)) (some 7) (.d (.int .i64 0))) t := by
  refine pblock (pupA v.of.length (fun k s u => s = put (put (put (fun _ => .undef) (some 3) (ptrAt p3)) (some 2) (ptrAt p2)) (some 7) (i64 k) ∧ Lay st [.box p3 [.d (.int .i64 v.n), .d (.flt .f64 v.f), .d (.str v.s), .d (.sl (v.of.map VT.row))], .box p2 [.d (.int .i64 kk), .d (.int .i64 m), .d (.int .i64 nn), .d (.sl (o.map KT.rrow))]] u ∧ (List.range k).all p = true) ⟨trimA, hL, rfl⟩ ?_)
  clear hL
  rintro k s t hk ⟨rfl, hL, hI⟩
  refine gor hL ?_; (repeat (clear hL; intro t hL; refine gor hL ?_))
  refine pcond_b rfl (fun hlt => ?_) (fun hlt => ?_)
  · have hlt' : k < v.of.length := by simpa using hlt
    obtain ⟨y, x, hy, hx, hc⟩ := hp k hlt'
    rw [KT.rav_eq, VT.av_eq] at hc
    refine gor hL ?_; (repeat (clear hL; intro t hL; refine gor hL ?_))
    refine pjoin (fun s u => s = put (put (put (put (fun _ => .undef) (some 8) (i64 (if kk = 6 then k else 0 : Nat))) (some 7) (i64 k)) (some 3) (ptrAt p3)) (some 2) (ptrAt p2) ∧ u = t) ?_ ?_
    · refine gor hL ?_; (repeat (clear hL; intro t hL; refine gor hL ?_))
      refine pcond_b rfl (fun e6 => ?_) (fun e6 => ?_)
      · have e6' : kk = 6 := by simpa using e6
        refine gor hL ?_; (repeat (clear hL; intro t hL; refine gor hL ?_))
        exact ⟨by rw [if_pos e6']; exact tr2, trivial⟩
      · have e6' : ¬ kk = 6 := by simpa using e6
        refine gor hL ?_; (repeat (clear hL; intro t hL; refine gor hL ?_))
        exact ⟨by rw [if_neg e6']; exact tr2, trivial⟩
    rintro s u ⟨rfl, rfl⟩
    refine pjoin (fun s w => s = put (put (put (put (fun _ => .undef) (some 8) (i64 (ix k))) (some 7) (i64 k)) (some 3) (ptrAt p3)) (some 2) (ptrAt p2) ∧ w = u) ?_ ?_
    · refine gor hL ?_; (repeat (clear hL; intro t hL; refine gor hL ?_))
      refine pcond_b rfl (fun e8 => ?_) (fun e8 => ?_)
      · have e8' : kk = 8 := by simpa using e8
        refine gor hL ?_; (repeat (clear hL; intro t hL; refine gor hL ?_))
        refine gnm ?_; rw [h8 e8' k hlt']
        exact ⟨tr2, trivial⟩
      · have e8' : ¬ kk = 8 := by simpa using e8
        refine gor hL ?_; (repeat (clear hL; intro t hL; refine gor hL ?_))
        have e : (if kk = 6 then k else 0) = ix k := by
          split
          · rename_i e6; exact (h6 e6 k hlt').symm
          · rename_i e6; exact (h0 e6 e8' k hlt').symm
        exact ⟨by rw [e]; exact tr2, trivial⟩
    rintro s w ⟨rfl, rfl⟩
    refine gor hL ?_; (repeat (clear hL; intro t hL; refine gor hL ?_))
    refine po_c0 (hc) ?_
    refine gor hL ?_; (repeat (clear hL; intro t hL; refine gor hL ?_))
    refine pcond_b rfl (fun h => ?_) (fun h => ?_)
    · have h' : p k = false := by simpa using h
      have hf : (List.range v.of.length).all p = false := List.all_eq_false.2 ⟨k, List.mem_range.2 hlt', by simp [h']⟩
      rw [hf] at hQ
      refine gor hL ?_; (repeat (clear hL; intro t hL; refine gor hL ?_))
      rw [← hQ]
      exact pfin_pure rfl hL.le
    · have h' : p k = true := by simpa using h
      refine gor hL ?_; (repeat (clear hL; intro t hL; refine gor hL ?_))
      refine gnm ?_; rw [IntWalk.i64_in ((k : Int) + 1) (by omega)]
      refine ⟨hlt', trimA, hL, ?_⟩
      rw [List.range_succ, List.all_append, hI]
      simp [h']
  · have hlt' : ¬ k < v.of.length := by simpa using hlt
    obtain rfl : k = v.of.length := by omega
    rw [hI] at hQ
    refine gor hL ?_; (repeat (clear hL; intro t hL; refine gor hL ?_))
    rw [← hQ]
    exact pfin_pure rfl hL.le
theorem C19 : ∀ (e : Nat) (T : KT) (v : VT), WT e T → v.fit → Pure (PCalls Try.prog GG) 19 [T.rav, v.av] (b2 (VT.is e T v)) := by
  intro e
  induction e with
  | zero => intro T v h; cases h
  | succ d ih =>
  intro T v hw hv
  have hvl := hv.len
  cases hw with
  | base _ k hk =>
    have : k = 0 ∨ k = 1 ∨ k = 2 ∨ k = 3 := by omega
    rcases this with rfl | rfl | rfl | rfl
    · simp only [KT.rav_eq, VT.av_eq, KT.pj, is0, List.length_nil, List.map_nil, List.map_cons]
      intro st; refine pcalls_of k19 e19 (of_decide_eq_true rfl) ?_; dsimp only [c19]; refine pstartL ?_; intro t hL; generalize hQ : pfin _ _ = Q
      (refine gor hL ?_; (repeat (clear hL; intro t hL; refine gor hL ?_))); refine po_boxA hL ?_; clear hL; intro p2 t hL
      (refine gor hL ?_; (repeat (clear hL; intro t hL; refine gor hL ?_))); refine po_boxA hL ?_; clear hL; intro p3 t hL
      refine gor hL ?_; (repeat (clear hL; intro t hL; refine gor hL ?_))
      refine po_c0 (C41 v.f) ?_
      refine gor hL ?_; (repeat (clear hL; intro t hL; refine gor hL ?_))
      refine pcond_b rfl (fun h1 => ?_) (fun h1 => ?_)
      · refine gor hL ?_; (repeat (clear hL; intro t hL; refine gor hL ?_))
        rw [← hQ]
        exact pfin_pure (congrArg (fun z => some (b2 z)) (by rw [ft_neg h1]; rfl)) hL.le
      refine gor hL ?_; (repeat (clear hL; intro t hL; refine gor hL ?_)); (repeat (refine pseqk ?_; refine gor hL ?_; (repeat (clear hL; intro t hL; refine gor hL ?_))))
      refine pcond_b rfl (fun h2 => ?_) (fun h2 => ?_)
      · refine gor hL ?_; (repeat (clear hL; intro t hL; refine gor hL ?_))
        rw [← hQ]
        exact pfin_pure (congrArg (fun z => some (b2 z)) (by
          symm; rw [Bool.eq_false_iff]; intro hh
          simp only [pvq] at hh h2
          omega)) hL.le
      refine gor hL ?_; (repeat (clear hL; intro t hL; refine gor hL ?_)); (repeat (refine pseqk ?_; refine gor hL ?_; (repeat (clear hL; intro t hL; refine gor hL ?_))))
      refine pcond_b rfl (fun h3 => ?_) (fun h3 => ?_)
      · refine gor hL ?_; (repeat (clear hL; intro t hL; refine gor hL ?_))
        rw [← hQ]
        exact pfin_pure (congrArg (fun z => some (b2 z)) (by
          symm; rw [Bool.eq_false_iff]; intro hh
          simp only [pvq] at hh h3
          omega)) hL.le
      refine gor hL ?_; (repeat (clear hL; intro t hL; refine gor hL ?_)); (repeat (refine pseqk ?_; refine gor hL ?_; (repeat (clear hL; intro t hL; refine gor hL ?_))))
      simp only [pvq] at h2 h3
      have e1 : noFT v = true := ft_neg h1
      have hz : v.of.length = 0 := by omega
      have e2 : decide (v.n ≥ 0) = true := decide_eq_true (by omega)
      have e3 : decide (v.n ≤ 1) = true := decide_eq_true (by omega)
      have ez : ((v.of.length : Int) == 0) = true := by rw [hz]; rfl
      rw [e1, ez, e2, e3] at hQ
      exact isLoop 0 _ _ [] v hvl (fun _ => 0) (fun _ => true) (by omega) (by omega) (by omega) (by omega) (by rw [hz]; exact hQ) hL
    · simp only [KT.rav_eq, VT.av_eq, KT.pj, is1, List.length_nil, List.map_nil, List.map_cons]
      intro st; refine pcalls_of k19 e19 (of_decide_eq_true rfl) ?_; dsimp only [c19]; refine pstartL ?_; intro t hL; generalize hQ : pfin _ _ = Q
      (refine gor hL ?_; (repeat (clear hL; intro t hL; refine gor hL ?_))); refine po_boxA hL ?_; clear hL; intro p2 t hL
      (refine gor hL ?_; (repeat (clear hL; intro t hL; refine gor hL ?_))); refine po_boxA hL ?_; clear hL; intro p3 t hL
      refine gor hL ?_; (repeat (clear hL; intro t hL; refine gor hL ?_))
      refine po_c0 (C41 v.f) ?_
      refine gor hL ?_; (repeat (clear hL; intro t hL; refine gor hL ?_))
      refine pcond_b rfl (fun h1 => ?_) (fun h1 => ?_)
      · refine gor hL ?_; (repeat (clear hL; intro t hL; refine gor hL ?_))
        rw [← hQ]
        exact pfin_pure (congrArg (fun z => some (b2 z)) (by rw [ft_neg h1]; rfl)) hL.le
      refine gor hL ?_; (repeat (clear hL; intro t hL; refine gor hL ?_)); (repeat (refine pseqk ?_; refine gor hL ?_; (repeat (clear hL; intro t hL; refine gor hL ?_))))
      refine pcond_b rfl (fun h2 => ?_) (fun h2 => ?_)
      · refine gor hL ?_; (repeat (clear hL; intro t hL; refine gor hL ?_))
        rw [← hQ]
        exact pfin_pure (congrArg (fun z => some (b2 z)) (by
          symm; rw [Bool.eq_false_iff]; intro hh
          simp only [pvq] at hh h2
          omega)) hL.le
      refine gor hL ?_; (repeat (clear hL; intro t hL; refine gor hL ?_)); (repeat (refine pseqk ?_; refine gor hL ?_; (repeat (clear hL; intro t hL; refine gor hL ?_))))
      refine pcond_b rfl (fun h3 => ?_) (fun h3 => ?_)
      · refine gor hL ?_; (repeat (clear hL; intro t hL; refine gor hL ?_))
        rw [← hQ]
        exact pfin_pure (congrArg (fun z => some (b2 z)) (by
          symm; rw [Bool.eq_false_iff]; intro hh
          simp only [pvq] at hh h3
          omega)) hL.le
      refine gor hL ?_; (repeat (clear hL; intro t hL; refine gor hL ?_)); (repeat (refine pseqk ?_; refine gor hL ?_; (repeat (clear hL; intro t hL; refine gor hL ?_))))
      simp only [pvq] at h2 h3
      have e1 : noFT v = true := ft_neg h1
      have hz : v.of.length = 0 := by omega
      have e2 : decide (v.n ≥ 0) = true := decide_eq_true (by omega)
      have e3 : decide (v.n ≤ 65535) = true := decide_eq_true (by omega)
      have ez : ((v.of.length : Int) == 0) = true := by rw [hz]; rfl
      rw [e1, ez, e2, e3] at hQ
      exact isLoop 1 _ _ [] v hvl (fun _ => 0) (fun _ => true) (by omega) (by omega) (by omega) (by omega) (by rw [hz]; exact hQ) hL
    · simp only [KT.rav_eq, VT.av_eq, KT.pj, is2, List.length_nil, List.map_nil, List.map_cons]
      intro st; refine pcalls_of k19 e19 (of_decide_eq_true rfl) ?_; dsimp only [c19]; refine pstartL ?_; intro t hL; generalize hQ : pfin _ _ = Q
      (refine gor hL ?_; (repeat (clear hL; intro t hL; refine gor hL ?_))); refine po_boxA hL ?_; clear hL; intro p2 t hL
      (refine gor hL ?_; (repeat (clear hL; intro t hL; refine gor hL ?_))); refine po_boxA hL ?_; clear hL; intro p3 t hL
      refine gor hL ?_; (repeat (clear hL; intro t hL; refine gor hL ?_))
      refine po_c0 (C41 v.f) ?_
      refine gor hL ?_; (repeat (clear hL; intro t hL; refine gor hL ?_))
      refine pcond_b rfl (fun h1 => ?_) (fun h1 => ?_)
      · refine gor hL ?_; (repeat (clear hL; intro t hL; refine gor hL ?_))
        rw [← hQ]
        exact pfin_pure (congrArg (fun z => some (b2 z)) (by rw [ft_neg h1]; rfl)) hL.le
      refine gor hL ?_; (repeat (clear hL; intro t hL; refine gor hL ?_)); (repeat (refine pseqk ?_; refine gor hL ?_; (repeat (clear hL; intro t hL; refine gor hL ?_))))
      refine pcond_b rfl (fun h2 => ?_) (fun h2 => ?_)
      · refine gor hL ?_; (repeat (clear hL; intro t hL; refine gor hL ?_))
        rw [← hQ]
        exact pfin_pure (congrArg (fun z => some (b2 z)) (by
          symm; rw [Bool.eq_false_iff]; intro hh
          simp only [pvq] at hh h2
          omega)) hL.le
      refine gor hL ?_; (repeat (clear hL; intro t hL; refine gor hL ?_)); (repeat (refine pseqk ?_; refine gor hL ?_; (repeat (clear hL; intro t hL; refine gor hL ?_))))
      refine pcond_b rfl (fun h3 => ?_) (fun h3 => ?_)
      · refine gor hL ?_; (repeat (clear hL; intro t hL; refine gor hL ?_))
        rw [← hQ]
        exact pfin_pure (congrArg (fun z => some (b2 z)) (by
          symm; rw [Bool.eq_false_iff]; intro hh
          simp only [pvq] at hh h3
          omega)) hL.le
      refine gor hL ?_; (repeat (clear hL; intro t hL; refine gor hL ?_)); (repeat (refine pseqk ?_; refine gor hL ?_; (repeat (clear hL; intro t hL; refine gor hL ?_))))
      simp only [pvq] at h2 h3
      have e1 : noFT v = true := ft_neg h1
      have hz : v.of.length = 0 := by omega
      have e2 : decide (v.n ≥ -2147483648) = true := decide_eq_true (by omega)
      have e3 : decide (v.n < 2147483648) = true := decide_eq_true (by omega)
      have ez : ((v.of.length : Int) == 0) = true := by rw [hz]; rfl
      rw [e1, ez, e2, e3] at hQ
      exact isLoop 2 _ _ [] v hvl (fun _ => 0) (fun _ => true) (by omega) (by omega) (by omega) (by omega) (by rw [hz]; exact hQ) hL
    · simp only [KT.rav_eq, VT.av_eq, KT.pj, is3, List.length_nil, List.map_nil, List.map_cons]
      intro st; refine pcalls_of k19 e19 (of_decide_eq_true rfl) ?_; dsimp only [c19]; refine pstartL ?_; intro t hL; generalize hQ : pfin _ _ = Q
      (refine gor hL ?_; (repeat (clear hL; intro t hL; refine gor hL ?_))); refine po_boxA hL ?_; clear hL; intro p2 t hL
      (refine gor hL ?_; (repeat (clear hL; intro t hL; refine gor hL ?_))); refine po_boxA hL ?_; clear hL; intro p3 t hL
      refine gor hL ?_; (repeat (clear hL; intro t hL; refine gor hL ?_))
      refine pcond_b rfl (fun h1 => ?_) (fun h1 => ?_)
      · refine gor hL ?_; (repeat (clear hL; intro t hL; refine gor hL ?_))
        rw [← hQ]
        exact pfin_pure (congrArg (fun z => some (b2 z)) (by
          have e : (v.s.toList == (bs []).toList) = false := by simpa using h1
          rw [e]; simp)) hL.le
      refine gor hL ?_; (repeat (clear hL; intro t hL; refine gor hL ?_)); (repeat (refine pseqk ?_; refine gor hL ?_; (repeat (clear hL; intro t hL; refine gor hL ?_))))
      refine pcond_b rfl (fun h2 => ?_) (fun h2 => ?_)
      · refine gor hL ?_; (repeat (clear hL; intro t hL; refine gor hL ?_))
        rw [← hQ]
        exact pfin_pure (congrArg (fun z => some (b2 z)) (by
          symm; rw [Bool.eq_false_iff]; intro hh
          simp only [pvq] at hh h2
          omega)) hL.le
      refine gor hL ?_; (repeat (clear hL; intro t hL; refine gor hL ?_)); (repeat (refine pseqk ?_; refine gor hL ?_; (repeat (clear hL; intro t hL; refine gor hL ?_))))
      refine pcond_b rfl (fun h3 => ?_) (fun h3 => ?_)
      · refine gor hL ?_; (repeat (clear hL; intro t hL; refine gor hL ?_))
        rw [← hQ]
        exact pfin_pure (congrArg (fun z => some (b2 z)) (by
          symm; rw [Bool.eq_false_iff]; intro hh
          simp only [pvq] at hh h3
          omega)) hL.le
      refine gor hL ?_; (repeat (clear hL; intro t hL; refine gor hL ?_)); (repeat (refine pseqk ?_; refine gor hL ?_; (repeat (clear hL; intro t hL; refine gor hL ?_))))
      simp only [pvq] at h2 h3
      have e1 : (v.s.toList == (bs []).toList) = true := by simpa using h1
      have hz : v.of.length = 0 := by omega
      have e2 : (v.n == 0) = true := beq_iff_eq.2 (by omega)
      have ez : ((v.of.length : Int) == 0) = true := by rw [hz]; rfl
      rw [e1, ez, e2] at hQ
      exact isLoop 3 _ _ [] v hvl (fun _ => 0) (fun _ => true) (by omega) (by omega) (by omega) (by omega) (by rw [hz]; exact hQ) hL
  | text _ m hm =>
    simp only [KT.rav_eq, VT.av_eq, KT.pj, is4, List.length_nil, List.map_nil, List.map_cons]
    intro st; refine pcalls_of k19 e19 (of_decide_eq_true rfl) ?_; dsimp only [c19]; refine pstartL ?_; intro t hL; generalize hQ : pfin _ _ = Q
    (refine gor hL ?_; (repeat (clear hL; intro t hL; refine gor hL ?_))); refine po_boxA hL ?_; clear hL; intro p2 t hL
    (refine gor hL ?_; (repeat (clear hL; intro t hL; refine gor hL ?_))); refine po_boxA hL ?_; clear hL; intro p3 t hL
    refine gor hL ?_; (repeat (clear hL; intro t hL; refine gor hL ?_))
    refine po_c0 (C41 v.f) ?_
    refine gor hL ?_; (repeat (clear hL; intro t hL; refine gor hL ?_))
    refine pcond_b rfl (fun h1 => ?_) (fun h1 => ?_)
    · refine gor hL ?_; (repeat (clear hL; intro t hL; refine gor hL ?_))
      rw [← hQ]
      exact pfin_pure (congrArg (fun z => some (b2 z)) (by
        have e : (fbits v.f == 0) = false := by simpa [bne] using h1
        rw [e]; simp)) hL.le
    refine gor hL ?_; (repeat (clear hL; intro t hL; refine gor hL ?_)); (repeat (refine pseqk ?_; refine gor hL ?_; (repeat (clear hL; intro t hL; refine gor hL ?_))))
    refine pcond_b rfl (fun h2 => ?_) (fun h2 => ?_)
    · refine gor hL ?_; (repeat (clear hL; intro t hL; refine gor hL ?_))
      rw [← hQ]
      exact pfin_pure (congrArg (fun z => some (b2 z)) (by
        symm; rw [Bool.eq_false_iff]; intro hh
        simp only [pvq] at hh h2
        omega)) hL.le
    refine gor hL ?_; (repeat (clear hL; intro t hL; refine gor hL ?_)); (repeat (refine pseqk ?_; refine gor hL ?_; (repeat (clear hL; intro t hL; refine gor hL ?_))))
    refine pcond_b rfl (fun h3 => ?_) (fun h3 => ?_)
    · refine gor hL ?_; (repeat (clear hL; intro t hL; refine gor hL ?_))
      rw [← hQ]
      exact pfin_pure (congrArg (fun z => some (b2 z)) (by
        symm; rw [Bool.eq_false_iff]; intro hh
        simp only [pvq] at hh h3
        omega)) hL.le
    refine gor hL ?_; (repeat (clear hL; intro t hL; refine gor hL ?_)); (repeat (refine pseqk ?_; refine gor hL ?_; (repeat (clear hL; intro t hL; refine gor hL ?_))))
    simp only [pvq] at h2 h3
    have e1 : (fbits v.f == 0) = true := by simpa [bne] using h1
    have hz : v.of.length = 0 := by omega
    have e2 : (v.n == 0) = true := beq_iff_eq.2 (by omega)
    have e3 : decide ((v.s.size : Int) ≤ m) = true := decide_eq_true (by omega)
    have ez : ((v.of.length : Int) == 0) = true := by rw [hz]; rfl
    rw [e1, ez, e2, e3] at hQ
    exact isLoop 4 _ _ [] v hvl (fun _ => 0) (fun _ => true) (by omega) (by omega) (by omega) (by omega) (by rw [hz]; exact hQ) hL
  | seq _ m o hm ho =>
    simp only [KT.rav_eq, VT.av_eq, KT.pj, is5, List.length_nil, List.map_nil, List.map_cons]
    intro st; refine pcalls_of k19 e19 (of_decide_eq_true rfl) ?_; dsimp only [c19]; refine pstartL ?_; intro t hL; generalize hQ : pfin _ _ = Q
    (refine gor hL ?_; (repeat (clear hL; intro t hL; refine gor hL ?_))); refine po_boxA hL ?_; clear hL; intro p2 t hL
    (refine gor hL ?_; (repeat (clear hL; intro t hL; refine gor hL ?_))); refine po_boxA hL ?_; clear hL; intro p3 t hL
    refine gor hL ?_; (repeat (clear hL; intro t hL; refine gor hL ?_))
    refine po_c0 (C41 v.f) ?_
    refine gor hL ?_; (repeat (clear hL; intro t hL; refine gor hL ?_))
    refine pcond_b rfl (fun h1 => ?_) (fun h1 => ?_)
    · refine gor hL ?_; (repeat (clear hL; intro t hL; refine gor hL ?_))
      rw [← hQ]
      exact pfin_pure (congrArg (fun z => some (b2 z)) (by rw [ft_neg h1]; rfl)) hL.le
    refine gor hL ?_; (repeat (clear hL; intro t hL; refine gor hL ?_)); (repeat (refine pseqk ?_; refine gor hL ?_; (repeat (clear hL; intro t hL; refine gor hL ?_))))
    refine pcond_b rfl (fun h3 => ?_) (fun h3 => ?_)
    · refine gor hL ?_; (repeat (clear hL; intro t hL; refine gor hL ?_))
      rw [← hQ]
      exact pfin_pure (congrArg (fun z => some (b2 z)) (by
        symm; rw [Bool.eq_false_iff]; intro hh
        simp only [pvq] at hh h3
        omega)) hL.le
    refine gor hL ?_; (repeat (clear hL; intro t hL; refine gor hL ?_)); (repeat (refine pseqk ?_; refine gor hL ?_; (repeat (clear hL; intro t hL; refine gor hL ?_))))
    simp only [pvq] at h3
    have e1 : noFT v = true := ft_neg h1
    have e2 : (v.n == 0) = true := beq_iff_eq.2 (by omega)
    have e3 : decide ((v.of.length : Int) ≤ m) = true := decide_eq_true (by omega)
    have e4 : (([] : List KT).length + 1 == 1) = true := rfl
    simp only [e1, e2, e3, List.length_cons, e4, Bool.true_and, List.length_nil] at hQ
    rw [all_range] at hQ
    exact isLoop 5 _ _ [o] v hvl (fun _ => 0) (fun i => VT.is d o (v.of.getD i VT.zero)) (by omega) (by omega) (fun _ _ _ _ => rfl) (fun i hi => by
      obtain ⟨x, hx, hxm⟩ := elem_at hi
      have e : v.of.getD i VT.zero = x := by rw [List.getD_eq_getElem?_getD, hx]; rfl
      rw [e]
      exact ⟨o, x, rfl, hx, ih o x ho (hv.part hxm)⟩) hQ hL
  | reco _ k n o hk hl hn hf ho =>
    rcases hk with rfl | rfl
    · simp only [KT.rav_eq, VT.av_eq, KT.pj, is6, List.length_nil, List.map_nil, List.map_cons]
      intro st; refine pcalls_of k19 e19 (of_decide_eq_true rfl) ?_; dsimp only [c19]; refine pstartL ?_; intro t hL; generalize hQ : pfin _ _ = Q
      (refine gor hL ?_; (repeat (clear hL; intro t hL; refine gor hL ?_))); refine po_boxA hL ?_; clear hL; intro p2 t hL
      (refine gor hL ?_; (repeat (clear hL; intro t hL; refine gor hL ?_))); refine po_boxA hL ?_; clear hL; intro p3 t hL
      refine gor hL ?_; (repeat (clear hL; intro t hL; refine gor hL ?_))
      refine po_c0 (C41 v.f) ?_
      refine gor hL ?_; (repeat (clear hL; intro t hL; refine gor hL ?_))
      refine pcond_b rfl (fun h1 => ?_) (fun h1 => ?_)
      · refine gor hL ?_; (repeat (clear hL; intro t hL; refine gor hL ?_))
        rw [← hQ]
        exact pfin_pure (congrArg (fun z => some (b2 z)) (by rw [ft_neg h1]; rfl)) hL.le
      refine gor hL ?_; (repeat (clear hL; intro t hL; refine gor hL ?_)); (repeat (refine pseqk ?_; refine gor hL ?_; (repeat (clear hL; intro t hL; refine gor hL ?_))))
      refine pcond_b rfl (fun h3 => ?_) (fun h3 => ?_)
      · refine gor hL ?_; (repeat (clear hL; intro t hL; refine gor hL ?_))
        rw [← hQ]
        exact pfin_pure (congrArg (fun z => some (b2 z)) (by
          symm; rw [Bool.eq_false_iff]; intro hh
          simp only [pvq] at hh h3
          omega)) hL.le
      refine gor hL ?_; (repeat (clear hL; intro t hL; refine gor hL ?_)); (repeat (refine pseqk ?_; refine gor hL ?_; (repeat (clear hL; intro t hL; refine gor hL ?_))))
      refine pcond_b rfl (fun h4 => ?_) (fun h4 => ?_)
      · refine gor hL ?_; (repeat (clear hL; intro t hL; refine gor hL ?_))
        rw [← hQ]
        exact pfin_pure (congrArg (fun z => some (b2 z)) (by
          symm; rw [Bool.eq_false_iff]; intro hh
          simp only [pvq] at hh h4
          omega)) hL.le
      refine gor hL ?_; (repeat (clear hL; intro t hL; refine gor hL ?_)); (repeat (refine pseqk ?_; refine gor hL ?_; (repeat (clear hL; intro t hL; refine gor hL ?_))))
      simp only [pvq] at h3 h4
      have e1 : noFT v = true := ft_neg h1
      have e2 : (v.n == 0) = true := beq_iff_eq.2 (by omega)
      have hlen : v.of.length = o.length := by omega
      have e3 : (v.of.length == o.length) = true := beq_iff_eq.2 hlen
      simp only [e1, e2, e3, Bool.true_and] at hQ
      rw [zip_range _ _ hlen] at hQ
      exact isLoop 6 _ _ o v hvl (fun i => i) (fun i => VT.is d (o.getD i (.mk 0 0 [] [])) (v.of.getD i VT.zero)) (fun _ _ _ => rfl) (by omega) (by omega) (fun i hi => by
        obtain ⟨x, hx, hxm⟩ := elem_at hi
        obtain ⟨y, hy, hym⟩ := elem_at (l := o) (k := i) (by omega)
        have e : v.of.getD i VT.zero = x := by rw [List.getD_eq_getElem?_getD, hx]; rfl
        have e' : o.getD i (.mk 0 0 [] []) = y := by rw [List.getD_eq_getElem?_getD, hy]; rfl
        rw [e, e']
        exact ⟨y, x, hy, hx, ih y x (ho y hym) (hv.part hxm)⟩) hQ hL
    · simp only [KT.rav_eq, VT.av_eq, KT.pj, is8, List.length_nil, List.map_nil, List.map_cons]
      intro st; refine pcalls_of k19 e19 (of_decide_eq_true rfl) ?_; dsimp only [c19]; refine pstartL ?_; intro t hL; generalize hQ : pfin _ _ = Q
      (refine gor hL ?_; (repeat (clear hL; intro t hL; refine gor hL ?_))); refine po_boxA hL ?_; clear hL; intro p2 t hL
      (refine gor hL ?_; (repeat (clear hL; intro t hL; refine gor hL ?_))); refine po_boxA hL ?_; clear hL; intro p3 t hL
      refine gor hL ?_; (repeat (clear hL; intro t hL; refine gor hL ?_))
      refine po_c0 (C41 v.f) ?_
      refine gor hL ?_; (repeat (clear hL; intro t hL; refine gor hL ?_))
      refine pcond_b rfl (fun h1 => ?_) (fun h1 => ?_)
      · refine gor hL ?_; (repeat (clear hL; intro t hL; refine gor hL ?_))
        rw [← hQ]
        exact pfin_pure (congrArg (fun z => some (b2 z)) (by rw [ft_neg h1]; rfl)) hL.le
      refine gor hL ?_; (repeat (clear hL; intro t hL; refine gor hL ?_)); (repeat (refine pseqk ?_; refine gor hL ?_; (repeat (clear hL; intro t hL; refine gor hL ?_))))
      refine gnm ?_; rw [IntWalk.i64_in ((o.length : Int) - 1) (by omega)]
      refine gor hL ?_; (repeat (clear hL; intro t hL; refine gor hL ?_)); (repeat (refine pseqk ?_; refine gor hL ?_; (repeat (clear hL; intro t hL; refine gor hL ?_))))
      refine pcond_b rfl (fun h3 => ?_) (fun h3 => ?_)
      · refine gor hL ?_; (repeat (clear hL; intro t hL; refine gor hL ?_))
        rw [← hQ]
        exact pfin_pure (congrArg (fun z => some (b2 z)) (by
          symm; rw [Bool.eq_false_iff]; intro hh
          simp only [pvq] at hh h3
          omega)) hL.le
      refine gor hL ?_; (repeat (clear hL; intro t hL; refine gor hL ?_)); (repeat (refine pseqk ?_; refine gor hL ?_; (repeat (clear hL; intro t hL; refine gor hL ?_))))
      refine pcond_b rfl (fun h4 => ?_) (fun h4 => ?_)
      · refine gor hL ?_; (repeat (clear hL; intro t hL; refine gor hL ?_))
        rw [← hQ]
        exact pfin_pure (congrArg (fun z => some (b2 z)) (by
          symm; rw [Bool.eq_false_iff]; intro hh
          simp only [pvq] at hh h4
          omega)) hL.le
      refine gor hL ?_; (repeat (clear hL; intro t hL; refine gor hL ?_)); (repeat (refine pseqk ?_; refine gor hL ?_; (repeat (clear hL; intro t hL; refine gor hL ?_))))
      simp only [pvq] at h3 h4
      have e1 : noFT v = true := ft_neg h1
      have e2 : decide (0 ≤ v.n) = true := decide_eq_true (by omega)
      have e3 : decide (v.n < (o.length : Int)) = true := decide_eq_true (by omega)
      have hlen : v.of.length = 1 := by omega
      have e4 : (v.of.length == 1) = true := beq_iff_eq.2 hlen
      simp only [e1, e2, e3, e4, Bool.true_and] at hQ
      exact isLoop 8 _ _ o v hvl (fun _ => v.n.toNat) (fun i => VT.is d (o.getD v.n.toNat (.mk 0 0 [] [])) (v.of.getD i VT.zero)) (by omega) (fun _ _ _ => by omega) (by omega) (fun i hi => by
        obtain ⟨x, hx, hxm⟩ := elem_at hi
        obtain ⟨y, hy, hym⟩ := elem_at (l := o) (k := v.n.toNat) (by omega)
        have e : v.of.getD i VT.zero = x := by rw [List.getD_eq_getElem?_getD, hx]; rfl
        have e' : o.getD v.n.toNat (.mk 0 0 [] []) = y := by rw [List.getD_eq_getElem?_getD, hy]; rfl
        rw [e, e']
        exact ⟨y, x, hy, hx, ih y x (ho y hym) (hv.part hxm)⟩) (by rw [hlen]; simpa using hQ) hL
  | enum _ n hl hf =>
    simp only [KT.rav_eq, VT.av_eq, KT.pj, is7, List.length_nil, List.map_nil, List.map_cons]
    intro st; refine pcalls_of k19 e19 (of_decide_eq_true rfl) ?_; dsimp only [c19]; refine pstartL ?_; intro t hL; generalize hQ : pfin _ _ = Q
    (refine gor hL ?_; (repeat (clear hL; intro t hL; refine gor hL ?_))); refine po_boxA hL ?_; clear hL; intro p2 t hL
    (refine gor hL ?_; (repeat (clear hL; intro t hL; refine gor hL ?_))); refine po_boxA hL ?_; clear hL; intro p3 t hL
    refine gor hL ?_; (repeat (clear hL; intro t hL; refine gor hL ?_))
    refine po_c0 (C41 v.f) ?_
    refine gor hL ?_; (repeat (clear hL; intro t hL; refine gor hL ?_))
    refine pcond_b rfl (fun h1 => ?_) (fun h1 => ?_)
    · refine gor hL ?_; (repeat (clear hL; intro t hL; refine gor hL ?_))
      rw [← hQ]
      exact pfin_pure (congrArg (fun z => some (b2 z)) (by rw [ft_neg h1]; rfl)) hL.le
    refine gor hL ?_; (repeat (clear hL; intro t hL; refine gor hL ?_)); (repeat (refine pseqk ?_; refine gor hL ?_; (repeat (clear hL; intro t hL; refine gor hL ?_))))
    refine pcond_b rfl (fun h2 => ?_) (fun h2 => ?_)
    · refine gor hL ?_; (repeat (clear hL; intro t hL; refine gor hL ?_))
      rw [← hQ]
      exact pfin_pure (congrArg (fun z => some (b2 z)) (by
        symm; rw [Bool.eq_false_iff]; intro hh
        simp only [pvq] at hh h2
        omega)) hL.le
    refine gor hL ?_; (repeat (clear hL; intro t hL; refine gor hL ?_)); (repeat (refine pseqk ?_; refine gor hL ?_; (repeat (clear hL; intro t hL; refine gor hL ?_))))
    refine gnm ?_; rw [IntWalk.i64_in ((n.length : Int) - 1) (by omega)]
    refine gor hL ?_; (repeat (clear hL; intro t hL; refine gor hL ?_)); (repeat (refine pseqk ?_; refine gor hL ?_; (repeat (clear hL; intro t hL; refine gor hL ?_))))
    refine pcond_b rfl (fun h3 => ?_) (fun h3 => ?_)
    · refine gor hL ?_; (repeat (clear hL; intro t hL; refine gor hL ?_))
      rw [← hQ]
      exact pfin_pure (congrArg (fun z => some (b2 z)) (by
        symm; rw [Bool.eq_false_iff]; intro hh
        simp only [pvq] at hh h3
        omega)) hL.le
    refine gor hL ?_; (repeat (clear hL; intro t hL; refine gor hL ?_)); (repeat (refine pseqk ?_; refine gor hL ?_; (repeat (clear hL; intro t hL; refine gor hL ?_))))
    simp only [pvq] at h2 h3
    have e1 : noFT v = true := ft_neg h1
    have hz : v.of.length = 0 := by omega
    have e2 : decide (v.n ≥ 0) = true := decide_eq_true (by omega)
    have e3 : decide (v.n < (n.length : Int)) = true := decide_eq_true (by omega)
    have ez : ((v.of.length : Int) == 0) = true := by rw [hz]; rfl
    rw [e1, ez, e2, e3] at hQ
    exact isLoop 7 _ _ [] v hvl (fun _ => 0) (fun _ => true) (by omega) (by omega) (by omega) (by omega) (by rw [hz]; exact hQ) hL
end Go.Pv
