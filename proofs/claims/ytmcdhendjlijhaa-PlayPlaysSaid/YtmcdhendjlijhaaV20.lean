/- Functions of the program, by value. No condition. -/
import Derived.Test.YtmcdhendjlijhaaV6
import Derived.Test.YtmcdhendjlijhaaP32
namespace Go.Pv
open Go.Proofs
set_option maxRecDepth 100000
set_option maxHeartbeats 8000000

/-- (*prompter/play.machine).run -/
abbrev c33_3 : PCode :=
 (.exit 0)
abbrev c33_2 : PCode :=
 (.cond (.t 17)
  .skip
  c33_3)
abbrev c33_9 : PCode :=
 (.region [⟨(.some 43), (.mov (.t 0)), .none⟩,
   ⟨(.some 44), (.faddr 3 (.t 8)), .none⟩,
   ⟨(.some 45), (.load .false 1 (.t 44) .false), .none⟩,
   ⟨(.some 46), (.nilchk (.t 43)), .none⟩,
   ⟨(.some 47), (.faddr 0 (.t 46)), .none⟩,
   ⟨(.some 48), (.iaddrA 16 1 (.t 47) (.t 45)), .none⟩,
   ⟨(.some 49), (.load .false 1 (.t 48) .false), .none⟩,
   ⟨(.some 11), (.mov (.t 49)), .none⟩])
abbrev c33_8 : PCode :=
 (.cond (.t 42)
  c33_9
  .skip)
abbrev c33_13 : PCode :=
 (.seq (.region [⟨(.some 6), (.mov (.c (.d (.bool .false)))), .none⟩])
 .ret)
abbrev c33_16 : PCode :=
 (.region [⟨(.some 56), (.mov (.t 10)), .none⟩,
   ⟨(.some 57), (.faddr 4 (.t 8)), .none⟩,
   ⟨(.some 58), (.load .false 1 (.t 57) .false), .none⟩,
   ⟨(.some 59), (.cvt .i64 (.t 58)), .none⟩,
   ⟨(.some 60), (.nilchk (.t 56)), .none⟩,
   ⟨.none, (.store 1 (.t 60) (.t 59)), .none⟩])
abbrev c33_19 : PCode :=
 (.region [⟨(.some 63), (.mov (.t 10)), .none⟩,
   ⟨(.some 64), (.mov (.t 9)), .none⟩,
   ⟨(.some 65), (.nilchk (.t 63)), .none⟩,
   ⟨.none, (.store 1 (.t 65) (.t 64)), .none⟩])
abbrev c33_22 : PCode :=
 (.region [⟨(.some 68), (.mov (.t 10)), .none⟩,
   ⟨(.some 69), (.mov (.t 9)), .none⟩,
   ⟨(.some 70), (.mov (.t 11)), .none⟩,
   ⟨(.some 71), (.bin .add (.t 69) (.t 70)), .none⟩,
   ⟨(.some 72), (.nilchk (.t 68)), .none⟩,
   ⟨.none, (.store 1 (.t 72) (.t 71)), .none⟩])
abbrev c33_25 : PCode :=
 (.region [⟨(.some 75), (.mov (.t 10)), .none⟩,
   ⟨(.some 76), (.mov (.t 9)), .none⟩,
   ⟨(.some 77), (.mov (.t 11)), .none⟩,
   ⟨(.some 78), (.bin .sub (.t 76) (.t 77)), .none⟩,
   ⟨(.some 79), (.nilchk (.t 75)), .none⟩,
   ⟨.none, (.store 1 (.t 79) (.t 78)), .none⟩])
abbrev c33_28 : PCode :=
 (.region [⟨(.some 82), (.mov (.t 10)), .none⟩,
   ⟨(.some 83), (.mov (.t 9)), .none⟩,
   ⟨(.some 84), (.mov (.t 11)), .none⟩,
   ⟨(.some 85), (.bin .mul (.t 83) (.t 84)), .none⟩,
   ⟨(.some 86), (.nilchk (.t 82)), .none⟩,
   ⟨.none, (.store 1 (.t 86) (.t 85)), .none⟩])
abbrev c33_33 : PCode :=
 (.die 73 [⟨(.some 91), (.bld [(.d (.int .i64 0)), (.d (.int .i64 0)), (.d (.int .i64 0)), (.d (.flt .f64 0)), (.d (.str (bs []))), (.full [])] [(0, (1, (.c (.d (.int .i64 14)))))]), .none⟩,
   ⟨(.some 92), (.bld [(.d (.int .i64 0)), (.d (.int .i64 0)), (.d (.int .i64 0)), (.d (.flt .f64 0)), (.d (.str (bs []))), (.full [])] [(0, (6, (.t 91)))]), .none⟩,
   ⟨(.some 93), (.mki 99 (.t 92)), .none⟩] (.t 93))
abbrev c33_32 : PCode :=
 (.cond (.t 90)
  c33_33
  .skip)
abbrev c33_34 : PCode :=
 (.keep [0, 2, 7, 9, 10, 11] (.region [⟨(.some 94), (.mov (.t 10)), .none⟩,
   ⟨(.some 95), (.mov (.t 9)), .none⟩,
   ⟨(.some 96), (.mov (.t 11)), .none⟩,
   ⟨(.some 97), (.bin .quo (.t 95) (.t 96)), .none⟩,
   ⟨(.some 98), (.nilchk (.t 94)), .none⟩,
   ⟨.none, (.store 1 (.t 98) (.t 97)), .none⟩]))
abbrev c33_31 : PCode :=
 (.seq (.seq (.region [⟨(.some 89), (.mov (.t 11)), .none⟩,
   ⟨(.some 90), (.bin .eql (.t 89) (.c (.d (.int .i64 0)))), .none⟩])
 c33_32)
 c33_34)
abbrev c33_40 : PCode :=
 (.region [⟨(.some 106), (.mov (.t 10)), .none⟩,
   ⟨(.some 107), (.nilchk (.t 106)), .none⟩,
   ⟨.none, (.store 1 (.t 107) (.c (.d (.int .i64 1)))), .none⟩])
abbrev c33_39 : PCode :=
 (.cond (.t 105)
  c33_40
  .skip)
abbrev c33_38 : PCode :=
 (.keep [0, 2, 7, 9, 10, 11] (.seq (.region [⟨(.some 103), (.mov (.t 9)), .none⟩,
   ⟨(.some 104), (.mov (.t 11)), .none⟩,
   ⟨(.some 105), (.bin .lss (.t 103) (.t 104)), .none⟩])
 c33_39))
abbrev c33_37 : PCode :=
 (.seq (.region [⟨(.some 101), (.mov (.t 10)), .none⟩,
   ⟨(.some 102), (.nilchk (.t 101)), .none⟩,
   ⟨.none, (.store 1 (.t 102) (.c (.d (.int .i64 0)))), .none⟩])
 c33_38)
abbrev c33_45 : PCode :=
 (.region [⟨(.some 112), (.mov (.t 7)), .none⟩,
   ⟨(.some 113), (.faddr 4 (.t 8)), .none⟩,
   ⟨(.some 114), (.load .false 1 (.t 113) .false), .none⟩,
   ⟨(.some 115), (.cvt .i64 (.t 114)), .none⟩,
   ⟨(.some 116), (.bin .add (.t 112) (.t 115)), .none⟩,
   ⟨(.some 7), (.mov (.t 116)), .none⟩])
abbrev c33_44 : PCode :=
 (.cond (.t 111)
  c33_45
  .skip)
abbrev c33_43 : PCode :=
 (.seq (.region [⟨(.some 110), (.mov (.t 9)), .none⟩,
   ⟨(.some 111), (.bin .eql (.t 110) (.c (.d (.int .i64 0)))), .none⟩])
 c33_44)
abbrev c33_52 : PCode :=
 (.seq (.region [⟨(.some 6), (.mov (.c (.d (.bool .false)))), .none⟩])
 .ret)
abbrev c33_51 : PCode :=
 (.cond (.t 133)
  c33_52
  .skip)
abbrev c33_50 : PCode :=
 (.block 4 (.seq (.region [⟨(.some 123), (.mov (.t 0)), .none⟩,
   ⟨(.some 124), (.mov (.t 7)), .none⟩,
   ⟨(.some 125), (.bin .add (.t 124) (.c (.d (.int .i64 1)))), .none⟩,
   ⟨(.some 126), (.mov (.t 7)), .none⟩,
   ⟨(.some 127), (.bin .add (.t 126) (.c (.d (.int .i64 1)))), .none⟩,
   ⟨(.some 128), (.faddr 3 (.t 8)), .none⟩,
   ⟨(.some 129), (.load .false 1 (.t 128) .false), .none⟩,
   ⟨(.some 130), (.cvt .i64 (.t 129)), .none⟩,
   ⟨(.some 131), (.bin .add (.t 127) (.t 130)), .none⟩,
   ⟨(.some 132), (.callE 33 [(.t 123), (.t 125), (.t 131)]), .none⟩,
   ⟨(.some 133), (.not (.t 132)), .none⟩])
 c33_51))
abbrev c33_49 : PCode :=
 (.keep [0, 2, 7, 8, 120, 121] (.block 3 (.loop (.some [121, 0, 2, 7, 8, 120]) (.seq (.region [⟨(.some 122), (.bin .lss (.t 121) (.t 120)), .none⟩])
 (.seq (.cond (.t 122)
  .skip
  (.exit 3))
 (.seq c33_50
 (.region [⟨(.some 134), (.bin .add (.t 121) (.c (.d (.int .i16 1)))), .none⟩,
   ⟨(.some 121), (.mov (.t 134)), .none⟩])))))))
abbrev c33_53 : PCode :=
 (.region [⟨(.some 135), (.mov (.t 7)), .none⟩,
   ⟨(.some 136), (.faddr 3 (.t 8)), .none⟩,
   ⟨(.some 137), (.load .false 1 (.t 136) .false), .none⟩,
   ⟨(.some 138), (.cvt .i64 (.t 137)), .none⟩,
   ⟨(.some 139), (.bin .add (.t 135) (.t 138)), .none⟩,
   ⟨(.some 7), (.mov (.t 139)), .none⟩])
abbrev c33_48 : PCode :=
 (.seq (.seq (.region [⟨(.some 119), (.faddr 4 (.t 8)), .none⟩,
   ⟨(.some 120), (.load .false 1 (.t 119) .false), .none⟩,
   ⟨(.some 121), (.mov (.c (.d (.int .i16 0)))), .none⟩])
 c33_49)
 c33_53)
abbrev c33_58 : PCode :=
 (.die 73 [⟨(.some 144), (.faddr 4 (.t 8)), .none⟩,
   ⟨(.some 145), (.load .false 1 (.t 144) .false), .none⟩,
   ⟨(.some 146), (.cvt .i64 (.t 145)), .none⟩,
   ⟨(.some 147), (.bld [(.d (.int .i64 0)), (.d (.int .i64 0)), (.d (.int .i64 0)), (.d (.flt .f64 0)), (.d (.str (bs []))), (.full [])] [(0, (1, (.c (.d (.int .i64 16))))), (1, (1, (.t 146)))]), .none⟩,
   ⟨(.some 148), (.bld [(.d (.int .i64 0)), (.d (.int .i64 0)), (.d (.int .i64 0)), (.d (.flt .f64 0)), (.d (.str (bs []))), (.full [])] [(0, (6, (.t 147)))]), .none⟩,
   ⟨(.some 149), (.mki 99 (.t 148)), .none⟩] (.t 149))
abbrev c33_57 : PCode :=
 (.cond (.t 143)
  c33_58
  .skip)
abbrev c33_56 : PCode :=
 (.seq (.region [⟨(.some 142), (.mov (.t 9)), .none⟩,
   ⟨(.some 143), (.bin .neq (.t 142) (.c (.d (.int .i64 0)))), .none⟩])
 c33_57)
abbrev c33_65 : PCode :=
 (.region [⟨(.some 163), (.mov (.t 10)), .none⟩,
   ⟨(.some 164), (.nilchk (.t 163)), .none⟩,
   ⟨(.some 165), (.load .false 1 (.t 164) .false), .none⟩,
   ⟨(.some 166), (.mov (.t 13)), .none⟩,
   ⟨(.some 167), (.bin .add (.t 165) (.t 166)), .none⟩,
   ⟨(.some 168), (.nilchk (.t 163)), .none⟩,
   ⟨.none, (.store 1 (.t 168) (.t 167)), .none⟩])
abbrev c33_64 : PCode :=
 (.block 6 (.seq (.region [⟨(.some 161), (.iaddr 1 (.t 157) (.t 159)), .none⟩,
   ⟨(.some 162), (.load .false 1 (.t 161) .false), .none⟩,
   ⟨(.some 13), (.mov (.t 162)), .none⟩])
 c33_65))
abbrev c33_63 : PCode :=
 (.keep [0, 2, 7, 10, 157, 158, 159] (.block 5 (.loop (.some [159, 0, 2, 7, 10, 157, 158]) (.seq (.region [⟨(.some 160), (.bin .lss (.t 159) (.t 158)), .none⟩])
 (.seq (.cond (.t 160)
  .skip
  (.exit 5))
 (.seq c33_64
 (.region [⟨(.some 169), (.bin .add (.t 159) (.c (.d (.int .i64 1)))), .none⟩,
   ⟨(.some 159), (.mov (.t 169)), .none⟩])))))))
abbrev c33_62 : PCode :=
 (.keep [0, 2, 7, 10] (.seq (.region [⟨(.some 154), (.mov (.t 0)), .none⟩,
   ⟨(.some 155), (.nilchk (.t 154)), .none⟩,
   ⟨(.some 156), (.faddr 17 (.t 155)), .none⟩,
   ⟨(.some 157), (.load .false 1 (.t 156) .false), .none⟩,
   ⟨(.some 158), (.len (.t 157)), .none⟩,
   ⟨(.some 159), (.mov (.c (.d (.int .i64 0)))), .none⟩])
 c33_63))
abbrev c33_61 : PCode :=
 (.seq (.region [⟨(.some 152), (.mov (.t 10)), .none⟩,
   ⟨(.some 153), (.nilchk (.t 152)), .none⟩,
   ⟨.none, (.store 1 (.t 153) (.c (.d (.int .i64 0)))), .none⟩])
 c33_62)
abbrev c33_60 : PCode :=
 (.cond (.t 150)
  c33_61
  .skip)
abbrev c33_59 : PCode :=
 (.seq (.region [⟨(.some 151), (.bin .eql (.t 51) (.c (.d (.int .u8 11)))), .none⟩,
   ⟨(.some 150), (.mov (.t 151)), .none⟩])
 c33_60)
abbrev c33_55 : PCode :=
 (.cond (.t 140)
  c33_56
  c33_59)
abbrev c33_54 : PCode :=
 (.seq (.region [⟨(.some 141), (.bin .eql (.t 51) (.c (.d (.int .u8 10)))), .none⟩,
   ⟨(.some 140), (.mov (.t 141)), .none⟩])
 c33_55)
abbrev c33_47 : PCode :=
 (.cond (.t 117)
  c33_48
  c33_54)
abbrev c33_46 : PCode :=
 (.seq (.region [⟨(.some 118), (.bin .eql (.t 51) (.c (.d (.int .u8 9)))), .none⟩,
   ⟨(.some 117), (.mov (.t 118)), .none⟩])
 c33_47)
abbrev c33_42 : PCode :=
 (.cond (.t 108)
  c33_43
  c33_46)
abbrev c33_41 : PCode :=
 (.seq (.region [⟨(.some 109), (.bin .eql (.t 51) (.c (.d (.int .u8 8)))), .none⟩,
   ⟨(.some 108), (.mov (.t 109)), .none⟩])
 c33_42)
abbrev c33_36 : PCode :=
 (.cond (.t 99)
  c33_37
  c33_41)
abbrev c33_35 : PCode :=
 (.seq (.region [⟨(.some 100), (.bin .eql (.t 51) (.c (.d (.int .u8 7)))), .none⟩,
   ⟨(.some 99), (.mov (.t 100)), .none⟩])
 c33_36)
abbrev c33_30 : PCode :=
 (.cond (.t 87)
  c33_31
  c33_35)
abbrev c33_29 : PCode :=
 (.seq (.region [⟨(.some 88), (.bin .eql (.t 51) (.c (.d (.int .u8 6)))), .none⟩,
   ⟨(.some 87), (.mov (.t 88)), .none⟩])
 c33_30)
abbrev c33_27 : PCode :=
 (.cond (.t 80)
  c33_28
  c33_29)
abbrev c33_26 : PCode :=
 (.seq (.region [⟨(.some 81), (.bin .eql (.t 51) (.c (.d (.int .u8 5)))), .none⟩,
   ⟨(.some 80), (.mov (.t 81)), .none⟩])
 c33_27)
abbrev c33_24 : PCode :=
 (.cond (.t 73)
  c33_25
  c33_26)
abbrev c33_23 : PCode :=
 (.seq (.region [⟨(.some 74), (.bin .eql (.t 51) (.c (.d (.int .u8 4)))), .none⟩,
   ⟨(.some 73), (.mov (.t 74)), .none⟩])
 c33_24)
abbrev c33_21 : PCode :=
 (.cond (.t 66)
  c33_22
  c33_23)
abbrev c33_20 : PCode :=
 (.seq (.region [⟨(.some 67), (.bin .eql (.t 51) (.c (.d (.int .u8 3)))), .none⟩,
   ⟨(.some 66), (.mov (.t 67)), .none⟩])
 c33_21)
abbrev c33_18 : PCode :=
 (.cond (.t 61)
  c33_19
  c33_20)
abbrev c33_17 : PCode :=
 (.seq (.region [⟨(.some 62), (.bin .eql (.t 51) (.c (.d (.int .u8 2)))), .none⟩,
   ⟨(.some 61), (.mov (.t 62)), .none⟩])
 c33_18)
abbrev c33_15 : PCode :=
 (.cond (.t 54)
  c33_16
  c33_17)
abbrev c33_14 : PCode :=
 (.seq (.region [⟨(.some 55), (.bin .eql (.t 51) (.c (.d (.int .u8 1)))), .none⟩,
   ⟨(.some 54), (.mov (.t 55)), .none⟩])
 c33_15)
abbrev c33_12 : PCode :=
 (.cond (.t 52)
  c33_13
  c33_14)
abbrev c33_11 : PCode :=
 (.block 2 (.seq (.region [⟨(.some 53), (.bin .eql (.t 51) (.c (.d (.int .u8 0)))), .none⟩,
   ⟨(.some 52), (.mov (.t 53)), .none⟩])
 c33_12))
abbrev c33_10 : PCode :=
 (.keep [0, 2, 7, 8, 9, 10, 11] (.seq (.region [⟨(.some 50), (.faddr 0 (.t 8)), .none⟩,
   ⟨(.some 51), (.load .false 1 (.t 50) .false), .none⟩])
 c33_11))
abbrev c33_7 : PCode :=
 (.seq (.seq (.region [⟨(.some 40), (.faddr 3 (.t 8)), .none⟩,
   ⟨(.some 41), (.load .false 1 (.t 40) .false), .none⟩,
   ⟨(.some 42), (.bin .lss (.t 41) (.c (.d (.int .u8 16)))), .none⟩])
 c33_8)
 c33_10)
abbrev c33_6 : PCode :=
 (.keep [0, 2, 7, 8, 9, 10] (.seq (.region [⟨(.some 11), (.mov (.c (.d (.int .i64 0)))), .none⟩])
 c33_7))
abbrev c33_5 : PCode :=
 (.keep [0, 2, 7, 8] (.seq (.region [⟨(.some 27), (.mov (.t 0)), .none⟩,
   ⟨(.some 28), (.faddr 2 (.t 8)), .none⟩,
   ⟨(.some 29), (.load .false 1 (.t 28) .false), .none⟩,
   ⟨(.some 30), (.nilchk (.t 27)), .none⟩,
   ⟨(.some 31), (.faddr 0 (.t 30)), .none⟩,
   ⟨(.some 32), (.iaddrA 16 1 (.t 31) (.t 29)), .none⟩,
   ⟨(.some 33), (.load .false 1 (.t 32) .false), .none⟩,
   ⟨(.some 34), (.mov (.t 0)), .none⟩,
   ⟨(.some 35), (.faddr 1 (.t 8)), .none⟩,
   ⟨(.some 36), (.load .false 1 (.t 35) .false), .none⟩,
   ⟨(.some 37), (.nilchk (.t 34)), .none⟩,
   ⟨(.some 38), (.faddr 0 (.t 37)), .none⟩,
   ⟨(.some 39), (.iaddrA 16 1 (.t 38) (.t 36)), .none⟩,
   ⟨(.some 9), (.mov (.t 33)), .none⟩,
   ⟨(.some 10), (.mov (.t 39)), .none⟩])
 c33_6))
abbrev c33_66 : PCode :=
 (.region [⟨(.some 18), (.mov (.t 7)), .none⟩,
   ⟨(.some 19), (.bin .add (.t 18) (.c (.d (.int .i64 1)))), .none⟩,
   ⟨(.some 7), (.mov (.t 19)), .none⟩])
abbrev c33_4 : PCode :=
 (.seq (.block 1 (.seq (.region [⟨(.some 20), (.mov (.t 0)), .none⟩,
   ⟨(.some 21), (.nilchk (.t 20)), .none⟩,
   ⟨(.some 22), (.faddr 16 (.t 21)), .none⟩,
   ⟨(.some 23), (.load .false 1 (.t 22) .false), .none⟩,
   ⟨(.some 24), (.mov (.t 7)), .none⟩,
   ⟨(.some 25), (.iaddr 5 (.t 23) (.t 24)), .none⟩,
   ⟨(.some 26), (.load .true 5 (.t 25) .false), .none⟩,
   ⟨(.some 8), (.alloc [(.d (.int .u8 0)), (.d (.int .u8 0)), (.d (.int .u8 0)), (.d (.int .u8 0)), (.d (.int .i16 0))]), .none⟩,
   ⟨.none, (.store 5 (.t 8) (.t 26)), .none⟩])
 c33_5))
 c33_66)
abbrev c33_1 : PCode :=
 (.block 0 (.loop (.some [7, 0, 2]) (.seq (.seq (.region [⟨(.some 15), (.mov (.t 7)), .none⟩,
   ⟨(.some 16), (.mov (.t 2)), .none⟩,
   ⟨(.some 17), (.bin .lss (.t 15) (.t 16)), .none⟩])
 c33_2)
 c33_4)))
abbrev c33_67 : PCode :=
 (.seq (.region [⟨(.some 6), (.mov (.c (.d (.bool .true)))), .none⟩])
 .ret)
abbrev c33_0 : PCode :=
 (.seq (.seq (.region [⟨(.some 14), (.mov (.t 1)), .none⟩,
   ⟨(.some 7), (.mov (.t 14)), .none⟩])
 c33_1)
 c33_67)
def c33 : PFun := ⟨
 (.seq (.region [⟨(.some 6), (.mov (.c (.d (.bool .false)))), .none⟩])
 c33_0),
 3, 170, [(.tmp 6)]⟩

theorem e33 : entered Try.prog 33 = true := by kernel_rfl
theorem k33 : compFun Try.prog (fun i => if i = 36 then 16 else 0) 33 = some c33.er := by kernel_rfl


def panV (e r : Int) : AV := .d (.ifa 99 [.int .i64 e, .int .i64 r, .int .i64 0, .flt .f64 0, .str (bs []), .sl []])

section
variable {G : Glob} {C : CallsP}
theorem rprogA {st t : St} {L Z : List Item} {x : Arg} {d : Option Nat} {rest : List POper} {K : X → Prop} {s : Slots} {m : Mx} {b : Nat} {R : List Int} {p : List Ins} {args : List Int} (hL : Lay st L t) (hR : R.length = 16)
    (h : pops G C rest K ⟨put s d (.d (.sl (p.map Ins.row))), m⟩) (hm : m.st = t := by rfl) (hx : x.ev G s = .d (.ptr b 16) := by rfl) (hr : Rem (.box b (rcells R p args)) L Z := by (repeat (first | exact Rem.head | apply Rem.tail))) : pops G C (⟨d, .load false 1 x false, none⟩ :: rest) K ⟨s, m⟩ :=
  po_loadL hL hm hx hr (rcells_prog p args hR) h
theorem rargsA {st t : St} {L Z : List Item} {x : Arg} {d : Option Nat} {rest : List POper} {K : X → Prop} {s : Slots} {m : Mx} {b : Nat} {R : List Int} {p : List Ins} {args : List Int} (hL : Lay st L t) (hR : R.length = 16)
    (h : pops G C rest K ⟨put s d (.d (.sl (args.map fun n => [.int .i64 n]))), m⟩) (hm : m.st = t := by rfl) (hx : x.ev G s = .d (.ptr b 17) := by rfl) (hr : Rem (.box b (rcells R p args)) L Z := by (repeat (first | exact Rem.head | apply Rem.tail))) : pops G C (⟨d, .load false 1 x false, none⟩ :: rest) K ⟨s, m⟩ :=
  po_loadL hL hm hx hr (rcells_args p args hR) h
theorem rloadA {st t : St} {L Z : List Item} {x : Arg} {d : Option Nat} {rest : List POper} {K : X → Prop} {s : Slots} {m : Mx} {b : Nat} {R : List Int} {p : List Ins} {args : List Int} {k : Int} (hL : Lay st L t) (hR : R.length = 16) (hk : 0 ≤ k ∧ k < 16)
    (h : pops G C rest K ⟨put s d (.d (.int .i64 (rg R k))), m⟩) (hm : m.st = t := by rfl) (hx : x.ev G s = .d (.ptr b (k.toNat * 1)) := by rfl) (hr : Rem (.box b (rcells R p args)) L Z := by (repeat (first | exact Rem.head | apply Rem.tail))) : pops G C (⟨d, .load false 1 x false, none⟩ :: rest) K ⟨s, m⟩ :=
  po_rload hL hm (by rw [hx, Nat.zero_add]) hr hk hR h
theorem rstoreA {st t : St} {L Z : List Item} {x y : Arg} {d : Option Nat} {rest : List POper} {K : X → Prop} {s : Slots} {m : Mx} {b : Nat} {R : List Int} {p : List Ins} {args : List Int} {k v : Int} (hL : Lay st L t) (hR : R.length = 16) (hk : 0 ≤ k ∧ k < 16)
    (h : ∀ t', Lay st (.box b (rcells (R.set k.toNat v) p args) :: Z) t' → pops G C rest K ⟨put s d .undef, m.past t'⟩) (hm : m.st = t := by rfl) (hx : x.ev G s = .d (.ptr b (k.toNat * 1)) := by rfl) (hr : Rem (.box b (rcells R p args)) L Z := by (repeat (first | exact Rem.head | apply Rem.tail)))
    (hy : y.ev G s = .d (.int .i64 v) := by rfl) (hh : ∀ u, m.holds u := by exact fun _ _ _ h => False.elim h) : pops G C (⟨d, .store 1 x y, none⟩ :: rest) K ⟨s, m⟩ := po_rstore hL hm (by rw [hx, Nat.zero_add]) hr hy hk hR hh h
theorem riaA {len sz : Nat} {x i : Arg} {d : Option Nat} {rest : List POper} {K : X → Prop} {s : Slots} {m : Mx} {b : Nat} {k : IntKind} {n : Int} (hn : 0 ≤ n ∧ n < (len : Int)) (h : pops G C rest K ⟨put s d (.d (.ptr b (n.toNat * sz))), m⟩) (hx : x.ev G s = .d (.ptr b 0) := by rfl) (hi : i.ev G s = .d (.int k n) := by rfl) :
    pops G C (⟨d, .iaddrA len sz x i, none⟩ :: rest) K ⟨s, m⟩ := po_ria hx hi hn (by rw [Nat.zero_add]; exact h)
end

theorem i16_in (n : Int) (h : -32768 ≤ n ∧ n ≤ 32767) : IntKind.i16.wrap n = n := by
  simp [IntKind.wrap, IntKind.signed, IntKind.bits]; omega
theorem runC (p : List Ins) (hp : ∀ x ∈ p, x.fit) (hpl : p.length < 2 ^ 40) (args : List Int) (hal : args.length < 2 ^ 40) (V : AV → Prop) (st0 : St) (pm : Nat) :
    ∀ (f i to : Nat) (R : List Int) (o : Out), go p args f i to R = o → o ≠ .stuck → (∀ e r, o = .fail e r → V (panV e r)) → R.length = 16 → i ≤ 2 ^ 41 → to ≤ 2 ^ 41 → ∀ st t, st0.le st → Lay st [.box pm (rcells R p args)] t →
      PCallsE Try.prog GG (PE.at V st0) 33 [ptrAt pm, i64 i, i64 to] t (fun r t' => ∃ b R', r = b2 b ∧ o = .done b R' ∧ R'.length = 16 ∧ Lay st [.box pm (rcells R' p args)] t') := by
  intro f
  induction f using Nat.strongRecOn with
  | ind f IH =>
  intro i to R o hgo hst hfail hR hi hto st t hle hL
  refine pcalls_of k33 e33 (of_decide_eq_true rfl) ?_; dsimp only [c33]
  generalize hQ : pfin _ _ = Q
  refine gor hL ?_; (repeat (clear hL; intro t hL; refine gor hL ?_))
  refine pblock ?_
  refine ploop (fun (g : Nat) s t => ∃ (i : Nat) (R : List Int), g ≤ f ∧ s = put (put (put (fun _ => .undef) (some 2) (i64 to)) (some 0) (ptrAt pm)) (some 7) (i64 i) ∧ Lay st [.box pm (rcells R p args)] t ∧ R.length = 16 ∧ i ≤ 2 ^ 41 ∧ go p args g i to R = o) ?_ (m := f) ⟨i, R, Nat.le_refl _, (by first | exact trimA | simp +decide only [pvc, pvi, pvt]), hL, hR, hi, hgo⟩
  clear hL hgo hR hi R i t
  rintro g s t ⟨i, R, hg, rfl, hL, hR, hi, hgo⟩
  refine gor hL ?_; (repeat (clear hL; intro t hL; refine gor hL ?_))
  refine pcond_b rfl (fun h0 => ?_) (fun h0 => ?_)
  rotate_left
  · have h0' : ¬ i < to := by simpa using h0
    have ho : g ≠ 0 := fun e => by subst e; exact hst hgo.symm
    obtain ⟨g, rfl⟩ := Nat.exists_eq_succ_of_ne_zero ho
    rw [go, if_neg h0'] at hgo
    refine gor hL ?_; (repeat (clear hL; intro t hL; refine gor hL ?_))
    rw [← hQ]
    exact ⟨b2 true, b2 true, _, rfl, .inl rfl, .refl _, true, R, rfl, hgo.symm, hR, hL.pk⟩
  have h0' : i < to := by simpa using h0
  have ho : g ≠ 0 := fun e => by subst e; exact hst hgo.symm
  obtain ⟨g, rfl⟩ := Nat.exists_eq_succ_of_ne_zero ho
  rw [go, if_pos h0'] at hgo
  cases hx : p[i]? with
  | none => rw [hx] at hgo; exact absurd hgo.symm hst
  | some x =>
  rw [hx] at hgo
  simp only at hgo
  have hxf := hp x (List.mem_of_getElem? hx)
  by_cases hb : 16 ≤ x.dst ∨ 16 ≤ x.a
  · rw [if_pos hb] at hgo; exact absurd hgo.symm hst
  rw [if_neg hb] at hgo
  have hda : (0 ≤ x.dst ∧ x.dst < 16) ∧ (0 ≤ x.a ∧ x.a < 16) := by have := hxf.dst; have := hxf.a; omega
  refine gor hL ?_; (repeat (clear hL; intro t hL; refine gor hL ?_))
  refine rprogA hL hR ?_
  (refine gor hL ?_; (repeat (clear hL; intro t hL; refine gor hL ?_))); (with_reducible refine po_allocL hL rfl ?_); clear hL; intro p8 t hL
  refine gor hL ?_; (repeat (clear hL; intro t hL; refine gor hL ?_))
  refine riaA hda.2 ?_
  refine rloadA hL hR hda.2 ?_
  refine gor hL ?_; (repeat (clear hL; intro t hL; refine gor hL ?_))
  refine riaA hda.1 ?_
  refine gor hL ?_; (repeat (clear hL; intro t hL; refine gor hL ?_))
  refine pjoin (fun s u => s = put (put (put (put (put (put (put (fun _ => .undef) (some 11) (.d (.int .i64 (bOf x R)))) (some 10) (.d (.ptr pm (x.dst.toNat * 1)))) (some 9) (.d (.int .i64 (rg R x.a)))) (some 8) (ptrAt p8)) (some 7) (i64 i)) (some 2) (i64 to)) (some 0) (ptrAt pm) ∧ u = t) ?_ ?_
  · refine gor hL ?_; (repeat (clear hL; intro t hL; refine gor hL ?_))
    refine pcond_b rfl (fun hb16 => ?_) (fun hb16 => ?_)
    · have hb16' : x.b < 16 := by simpa using hb16
      rw [bOf, if_pos hb16']
      have hbb : 0 ≤ x.b ∧ x.b < 16 := ⟨hxf.b.1, hb16'⟩
      refine gor hL ?_; (repeat (clear hL; intro t hL; refine gor hL ?_))
      refine riaA hbb ?_
      refine rloadA hL hR hbb ?_
      refine gor hL ?_; (repeat (clear hL; intro t hL; refine gor hL ?_))
      exact ⟨by first | rfl | simp +decide only [pvc, pvi, pvt], trivial⟩
    · have hb16' : ¬ x.b < 16 := by simpa using hb16
      rw [bOf, if_neg hb16']
      refine gor hL ?_; (repeat (clear hL; intro t hL; refine gor hL ?_))
      exact ⟨by first | rfl | simp +decide only [pvc, pvi, pvt], trivial⟩
  rintro s u ⟨rfl, rfl⟩
  have hset : ∀ v, (R.set x.dst.toNat v).length = 16 := fun v => by rw [List.length_set]; exact hR
  have hil : i < 2 ^ 41 := by omega
  unfold act at hgo
  generalize hbo : bOf x R = bb at hgo ⊢
  generalize hao : rg R x.a = aa at hgo ⊢
  refine gor hL ?_; (repeat (clear hL; intro t hL; refine gor hL ?_))
  refine pcond_b rfl (fun c0 => ?_) (fun c0 => ?_)
  · have c0' : x.op = 0 := by simpa using c0
    rw [if_pos c0'] at hgo
    refine gor hL ?_; (repeat (clear hL; intro t hL; refine gor hL ?_))
    rw [← hQ]
    exact ⟨b2 false, b2 false, _, rfl, .inl rfl, .refl _, false, R, rfl, hgo.symm, hR, hL.pk⟩
  have n0 : ¬ x.op = 0 := by simpa using c0
  rw [if_neg n0] at hgo
  refine gor hL ?_; (repeat (clear hL; intro t hL; refine gor hL ?_))
  refine pcond_b rfl (fun c1 => ?_) (fun c1 => ?_)
  · have c1' : x.op = 1 := by simpa using c1
    rw [if_neg (by omega), if_neg (by omega), if_neg (by omega), if_neg (by omega)] at hgo
    simp +decide only [actV, c1', if_true, if_false] at hgo
    refine gor hL ?_; (repeat (clear hL; intro t hL; refine gor hL ?_))
    refine gnm ?_; rw [IntWalk.i64_in x.n (by have := hxf.n; omega)]
    refine rstoreA hL hR hda.1 ?_
    clear hL; intro t hL
    refine gor hL ?_; (repeat (clear hL; intro t hL; refine gor hL ?_))
    refine gnm ?_; rw [IntWalk.i64_in ((i : Int) + 1) (by omega)]
    exact ⟨g, by omega, i + 1, _, by omega, by first | rfl | simp +decide only [pvc, pvi, pvt], hL.pk, hset _, by omega, hgo⟩
  have n1 : ¬ x.op = 1 := by simpa using c1
  refine gor hL ?_; (repeat (clear hL; intro t hL; refine gor hL ?_))
  refine pcond_b rfl (fun c2 => ?_) (fun c2 => ?_)
  · have c2' : x.op = 2 := by simpa using c2
    rw [if_neg (by omega), if_neg (by omega), if_neg (by omega), if_neg (by omega)] at hgo
    simp +decide only [actV, c2', if_true, if_false] at hgo
    refine gor hL ?_; (repeat (clear hL; intro t hL; refine gor hL ?_))
    refine rstoreA hL hR hda.1 ?_
    clear hL; intro t hL
    refine gor hL ?_; (repeat (clear hL; intro t hL; refine gor hL ?_))
    refine gnm ?_; rw [IntWalk.i64_in ((i : Int) + 1) (by omega)]
    exact ⟨g, by omega, i + 1, _, by omega, by first | rfl | simp +decide only [pvc, pvi, pvt], hL.pk, hset _, by omega, hgo⟩
  have n2 : ¬ x.op = 2 := by simpa using c2
  refine gor hL ?_; (repeat (clear hL; intro t hL; refine gor hL ?_))
  refine pcond_b rfl (fun c3 => ?_) (fun c3 => ?_)
  · have c3' : x.op = 3 := by simpa using c3
    rw [if_neg (by omega), if_neg (by omega), if_neg (by omega), if_neg (by omega)] at hgo
    simp +decide only [actV, c3', if_true, if_false] at hgo
    refine gor hL ?_; (repeat (clear hL; intro t hL; refine gor hL ?_))
    refine rstoreA hL hR hda.1 ?_
    clear hL; intro t hL
    refine gor hL ?_; (repeat (clear hL; intro t hL; refine gor hL ?_))
    refine gnm ?_; rw [IntWalk.i64_in ((i : Int) + 1) (by omega)]
    exact ⟨g, by omega, i + 1, _, by omega, by first | rfl | simp +decide only [pvc, pvi, pvt], hL.pk, hset _, by omega, hgo⟩
  have n3 : ¬ x.op = 3 := by simpa using c3
  refine gor hL ?_; (repeat (clear hL; intro t hL; refine gor hL ?_))
  refine pcond_b rfl (fun c4 => ?_) (fun c4 => ?_)
  · have c4' : x.op = 4 := by simpa using c4
    rw [if_neg (by omega), if_neg (by omega), if_neg (by omega), if_neg (by omega)] at hgo
    simp +decide only [actV, c4', if_true, if_false] at hgo
    refine gor hL ?_; (repeat (clear hL; intro t hL; refine gor hL ?_))
    refine rstoreA hL hR hda.1 ?_
    clear hL; intro t hL
    refine gor hL ?_; (repeat (clear hL; intro t hL; refine gor hL ?_))
    refine gnm ?_; rw [IntWalk.i64_in ((i : Int) + 1) (by omega)]
    exact ⟨g, by omega, i + 1, _, by omega, by first | rfl | simp +decide only [pvc, pvi, pvt], hL.pk, hset _, by omega, hgo⟩
  have n4 : ¬ x.op = 4 := by simpa using c4
  refine gor hL ?_; (repeat (clear hL; intro t hL; refine gor hL ?_))
  refine pcond_b rfl (fun c5 => ?_) (fun c5 => ?_)
  · have c5' : x.op = 5 := by simpa using c5
    rw [if_neg (by omega), if_neg (by omega), if_neg (by omega), if_neg (by omega)] at hgo
    simp +decide only [actV, c5', if_true, if_false] at hgo
    refine gor hL ?_; (repeat (clear hL; intro t hL; refine gor hL ?_))
    refine rstoreA hL hR hda.1 ?_
    clear hL; intro t hL
    refine gor hL ?_; (repeat (clear hL; intro t hL; refine gor hL ?_))
    refine gnm ?_; rw [IntWalk.i64_in ((i : Int) + 1) (by omega)]
    exact ⟨g, by omega, i + 1, _, by omega, by first | rfl | simp +decide only [pvc, pvi, pvt], hL.pk, hset _, by omega, hgo⟩
  have n5 : ¬ x.op = 5 := by simpa using c5
  refine gor hL ?_; (repeat (clear hL; intro t hL; refine gor hL ?_))
  refine pcond_b rfl (fun c6 => ?_) (fun c6 => ?_)
  · have c6' : x.op = 6 := by simpa using c6
    refine pjoin (fun s u => bb ≠ 0 ∧ s = put (put (put (put (put (put (fun _ => .undef) (some 11) (.d (.int .i64 bb))) (some 10) (.d (.ptr pm (x.dst.toNat * 1)))) (some 9) (.d (.int .i64 aa))) (some 7) (i64 i)) (some 2) (i64 to)) (some 0) (ptrAt pm) ∧ Lay st [.box pm (rcells R p args)] u) ?_ ?_
    · refine gor hL ?_; (repeat (clear hL; intro t hL; refine gor hL ?_))
      refine pcond_b rfl (fun cz => ?_) (fun cz => ?_)
      · have cz' : bb = 0 := by simpa using cz
        rw [if_pos ⟨c6', cz'⟩] at hgo
        refine pdie ?_
        refine gor hL ?_; (repeat (clear hL; intro t hL; refine gor hL ?_))
        exact ⟨trivial, die_ok (by kernel_rfl) ⟨hfail _ _ hgo.symm, hle.trans hL.le⟩⟩
      · have cz' : ¬ bb = 0 := by simpa using cz
        refine gor hL ?_; (repeat (clear hL; intro t hL; refine gor hL ?_))
        exact ⟨cz', by first | rfl | simp +decide only [pvc, pvi, pvt], hL.pk⟩
    clear hL
    rintro s t ⟨hz, rfl, hL⟩
    rw [if_neg (by omega), if_neg (by omega), if_neg (by omega), if_neg (by omega)] at hgo
    simp +decide only [actV, c6', if_true, if_false] at hgo
    refine gor hL ?_; (repeat (clear hL; intro t hL; refine gor hL ?_))
    refine po rfl (show ev _ _ _ = some (.d (.int .i64 (w64 (aa.tdiv bb)))) from ?_) ?_
    · show (if bb = 0 then none else some (AV.d (.int .i64 (IntKind.i64.wrap (aa.tdiv bb))))) = _
      rw [if_neg hz]
    refine gor hL ?_; (repeat (clear hL; intro t hL; refine gor hL ?_))
    refine rstoreA hL hR hda.1 ?_
    clear hL; intro t hL
    refine gor hL ?_; (repeat (clear hL; intro t hL; refine gor hL ?_))
    refine gnm ?_; rw [IntWalk.i64_in ((i : Int) + 1) (by omega)]
    exact ⟨g, by omega, i + 1, _, by omega, by first | rfl | simp +decide only [pvc, pvi, pvt], hL.pk, hset _, by omega, hgo⟩
  have n6 : ¬ x.op = 6 := by simpa using c6
  rw [if_neg (fun h => n6 h.1)] at hgo
  refine gor hL ?_; (repeat (clear hL; intro t hL; refine gor hL ?_))
  refine pcond_b rfl (fun c7 => ?_) (fun c7 => ?_)
  · have c7' : x.op = 7 := by simpa using c7
    rw [if_neg (by omega), if_neg (by omega), if_neg (by omega)] at hgo
    simp +decide only [actV, c7', if_true, if_false] at hgo
    refine gor hL ?_; (repeat (clear hL; intro t hL; refine gor hL ?_))
    refine rstoreA hL hR hda.1 ?_
    clear hL; intro t hL
    refine gor hL ?_; (repeat (clear hL; intro t hL; refine gor hL ?_))
    refine pcond_b rfl (fun cl => ?_) (fun cl => ?_)
    · have cl' : aa < bb := by simpa using cl
      rw [if_pos cl'] at hgo
      refine gor hL ?_; (repeat (clear hL; intro t hL; refine gor hL ?_))
      refine rstoreA hL (hset _) hda.1 ?_
      clear hL; intro t hL
      rw [List.set_set] at hL
      refine gor hL ?_; (repeat (clear hL; intro t hL; refine gor hL ?_))
      refine gnm ?_; rw [IntWalk.i64_in ((i : Int) + 1) (by omega)]
      exact ⟨g, by omega, i + 1, _, by omega, by first | rfl | simp +decide only [pvc, pvi, pvt], hL.pk, hset _, by omega, hgo⟩
    · have cl' : ¬ aa < bb := by simpa using cl
      rw [if_neg cl'] at hgo
      refine gor hL ?_; (repeat (clear hL; intro t hL; refine gor hL ?_))
      refine gnm ?_; rw [IntWalk.i64_in ((i : Int) + 1) (by omega)]
      exact ⟨g, by omega, i + 1, _, by omega, by first | rfl | simp +decide only [pvc, pvi, pvt], hL.pk, hset _, by omega, hgo⟩
  have n7 : ¬ x.op = 7 := by simpa using c7
  refine gor hL ?_; (repeat (clear hL; intro t hL; refine gor hL ?_))
  refine pcond_b rfl (fun c8 => ?_) (fun c8 => ?_)
  · have c8' : x.op = 8 := by simpa using c8
    rw [if_neg (by omega), if_neg (by omega)] at hgo
    refine gor hL ?_; (repeat (clear hL; intro t hL; refine gor hL ?_))
    refine pcond_b rfl (fun ca => ?_) (fun ca => ?_)
    · have ca' : aa = 0 := by simpa using ca
      rw [if_pos ⟨c8', ca'⟩] at hgo
      by_cases hneg : x.n < 0
      · rw [if_pos hneg] at hgo; exact absurd hgo.symm hst
      rw [if_neg hneg] at hgo
      have hn := hxf.n
      have e1 : ((i : Int) + x.n) = ((i + x.n.toNat : Nat) : Int) := by omega
      have hi2 : i < p.length := (List.getElem?_eq_some_iff.1 hx).1
      refine gor hL ?_; (repeat (clear hL; intro t hL; refine gor hL ?_))
      refine gnm ?_; rw [IntWalk.i64_in x.n (by omega), IntWalk.i64_in ((i : Int) + x.n) (by omega), e1, IntWalk.i64_in (((i + x.n.toNat : Nat) : Int) + 1) (by omega)]
      exact ⟨g, by omega, i + x.n.toNat + 1, R, by omega, by first | rfl | simp +decide only [pvc, pvi, pvt], hL.pk, hR, by omega, by rw [← hgo]; congr 1; omega⟩
    · have ca' : ¬ aa = 0 := by simpa using ca
      rw [if_neg (fun h => ca' h.2)] at hgo
      simp +decide only [actV, c8', if_true, if_false] at hgo
      rw [set_self] at hgo
      refine gor hL ?_; (repeat (clear hL; intro t hL; refine gor hL ?_))
      refine gnm ?_; rw [IntWalk.i64_in ((i : Int) + 1) (by omega)]
      exact ⟨g, by omega, i + 1, _, by omega, by first | rfl | simp +decide only [pvc, pvi, pvt], hL.pk, hR, by omega, hgo⟩
  have n8 : ¬ x.op = 8 := by simpa using c8
  refine gor hL ?_; (repeat (clear hL; intro t hL; refine gor hL ?_))
  refine pcond_b rfl (fun c9 => ?_) (fun c9 => ?_)
  · have c9' : x.op = 9 := by simpa using c9
    rw [if_neg (by omega), if_pos c9'] at hgo
    have hb := hxf.b
    have hn := hxf.n
    have eb : ((i : Int) + 1 + x.b) = ((i + 1 + x.b.toNat : Nat) : Int) := by omega
    have hi2 : i < p.length := (List.getElem?_eq_some_iff.1 hx).1
    refine gor hL ?_; (repeat (clear hL; intro t hL; refine gor hL ?_))
    refine pblock (pupA x.n.toNat (fun k s t => ∃ R', R'.length = 16 ∧ Lay st [.box pm (rcells R' p args), .box p8 [.d (.int .u8 x.op), .d (.int .u8 x.dst), .d (.int .u8 x.a), .d (.int .u8 x.b), .d (.int .i16 x.n)]] t ∧
      s = put (put (put (put (put (put (fun _ => .undef) (some 120) (.d (.int .i16 x.n))) (some 8) (ptrAt p8)) (some 7) (i64 i)) (some 2) (i64 to)) (some 0) (ptrAt pm)) (some 121) (.d (.int .i16 k)) ∧
      (match rep (go p args g (i + 1) (i + 1 + x.b.toNat)) (x.n.toNat - k) R' with | .done true R2 => go p args g (i + 1 + x.b.toNat) to R2 | o => o) = o) ⟨R, hR, hL.pk, (by first | exact trimA | simp +decide only [pvc, pvi, pvt]), hgo⟩ ?_)
    clear hL hgo hR t
    rintro k s t hk ⟨R', hR', hL, rfl, hgo⟩
    refine gor hL ?_; (repeat (clear hL; intro t hL; refine gor hL ?_))
    refine pcond_b rfl (fun cr => ?_) (fun cr => ?_)
    · have cr' : (k : Int) < x.n := by simpa using cr
      have hk1 : x.n.toNat - k = x.n.toNat - (k + 1) + 1 := by omega
      rw [hk1, rep] at hgo
      obtain ⟨st1, hl1, hl2⟩ := Lay.split (F := [.box pm (rcells R' p args)]) hL
      have e1 : ((i : Int) + 1) = ((i + 1 : Nat) : Int) := by omega
      refine gor hL ?_; (repeat (clear hL; intro t hL; refine gor hL ?_))
      refine gnm ?_; rw [IntWalk.i64_in x.b (by omega), IntWalk.i64_in ((i : Int) + 1) (by omega), IntWalk.i64_in ((i : Int) + 1 + x.b) (by omega), eb, e1]
      have hc := IH g (by omega) (i + 1) (i + 1 + x.b.toNat) R' _ rfl (fun e => by rw [e] at hgo; exact hst hgo.symm) (fun e r h => by rw [h] at hgo; exact hfail e r hgo.symm) hR' (by omega) (by omega) st1 t (hle.trans hl1.le) hl2
      refine po_callE hc ?_
      clear hL hc
      rintro r t ⟨b, R2, rfl, hgo2, hR2, hl3⟩
      have hL := hl1.join hl3
      rw [hgo2] at hgo
      cases b with
      | false =>
        simp only at hgo
        refine gor hL ?_; (repeat (clear hL; intro t hL; refine gor hL ?_))
        rw [← hQ]
        exact ⟨b2 false, b2 false, _, rfl, .inl rfl, .refl _, false, R2, rfl, hgo.symm, hR2, hL.pk⟩
      | true =>
        simp only at hgo
        refine gor hL ?_; (repeat (clear hL; intro t hL; refine gor hL ?_))
        refine gnm ?_; rw [show IntKind.i16.wrap ((k : Int) + 1) = ((k + 1 : Nat) : Int) from i16_in _ (by omega)]
        exact ⟨by omega, R2, hR2, hL.pk, by first | rfl | simp +decide only [pvc, pvi, pvt], hgo⟩
    · have cr' : ¬ (k : Int) < x.n := by simpa using cr
      have hk0 : x.n.toNat - k = 0 := by omega
      rw [hk0, rep] at hgo
      simp only at hgo
      refine gor hL ?_; (repeat (clear hL; intro t hL; refine gor hL ?_))
      rw [IntWalk.i64_in x.b (by omega), IntWalk.i64_in ((i : Int) + x.b) (by omega), IntWalk.i64_in ((i : Int) + x.b + 1) (by omega)]
      exact ⟨g, by omega, i + 1 + x.b.toNat, R', by omega, by rw [← eb, Int.add_right_comm]; first | rfl | simp +decide only [pvc, pvi, pvt], hL.pk, hR', by omega, hgo⟩
  have n9 : ¬ x.op = 9 := by simpa using c9
  refine gor hL ?_; (repeat (clear hL; intro t hL; refine gor hL ?_))
  refine pcond_b rfl (fun c10 => ?_) (fun c10 => ?_)
  · have c10' : x.op = 10 := by simpa using c10
    refine gor hL ?_; (repeat (clear hL; intro t hL; refine gor hL ?_))
    refine pcond_b rfl (fun cz => ?_) (fun cz => ?_)
    · have cz' : aa ≠ 0 := by simpa using cz
      rw [if_pos ⟨c10', cz'⟩] at hgo
      refine pdie ?_
      refine gor hL ?_; (repeat (clear hL; intro t hL; refine gor hL ?_))
      rw [IntWalk.i64_in x.n (by have := hxf.n; omega)]
      exact ⟨rfl, die_ok (by kernel_rfl) ⟨hfail _ _ hgo.symm, hle.trans hL.le⟩⟩
    · have cz' : aa = 0 := by simpa using cz
      rw [if_neg (fun h => h.2 cz'), if_neg n9, if_neg (fun h => n8 h.1)] at hgo
      simp +decide only [actV, c10', if_true, if_false] at hgo
      rw [set_self] at hgo
      refine gor hL ?_; (repeat (clear hL; intro t hL; refine gor hL ?_))
      refine gnm ?_; rw [IntWalk.i64_in ((i : Int) + 1) (by omega)]
      exact ⟨g, by omega, i + 1, _, by omega, by first | rfl | simp +decide only [pvc, pvi, pvt], hL.pk, hR, by omega, hgo⟩
  have n10 : ¬ x.op = 10 := by simpa using c10
  rw [if_neg (fun h => n10 h.1), if_neg n9, if_neg (fun h => n8 h.1)] at hgo
  refine gor hL ?_; (repeat (clear hL; intro t hL; refine gor hL ?_))
  refine pcond_b rfl (fun c11 => ?_) (fun c11 => ?_)
  · have c11' : x.op = 11 := by simpa using c11
    simp +decide only [actV, c11', if_true, if_false] at hgo
    refine gor hL ?_; (repeat (clear hL; intro t hL; refine gor hL ?_))
    refine rstoreA hL hR hda.1 ?_
    clear hL; intro t hL
    refine gor hL ?_; (repeat (clear hL; intro t hL; refine gor hL ?_))
    refine rargsA hL (hset _) ?_
    refine gor hL ?_; (repeat (clear hL; intro t hL; refine gor hL ?_))
    (apply prangeJ (args.length) (by omega) (fun k t => Lay st [.box pm (rcells (R.set x.dst.toNat (sumOf (args.take k))) p args), .box p8 [.d (.int .u8 x.op), .d (.int .u8 x.dst), .d (.int .u8 x.a), .d (.int .u8 x.b), .d (.int .i16 x.n)]] t)); (· exact trimA); (· exact fun _ => rfl)
    · exact hL.pk
    · intro t hL
      rw [List.take_length] at hL
      refine gor hL ?_; (repeat (clear hL; intro t hL; refine gor hL ?_))
      refine gnm ?_; rw [IntWalk.i64_in ((i : Int) + 1) (by omega)]
      exact ⟨g, by omega, i + 1, _, by omega, by first | rfl | simp +decide only [pvc, pvi, pvt], hL.pk, hset _, by omega, hgo⟩
    · intro k hk t hL
      obtain ⟨y, hy, _⟩ := elem_at hk
      have hsn := take_snoc hy
      refine pblock ?_
      refine gor hL ?_; (repeat (clear hL; intro t hL; refine gor hL ?_))
      refine rloadA hL (hset _) hda.1 ?_
      rw [rg_set (by omega)]
      refine gor hL ?_; (repeat (clear hL; intro t hL; refine gor hL ?_))
      refine rstoreA hL (hset _) hda.1 ?_
      clear hL; intro t hL
      rw [List.set_set, ← sum_snoc, ← hsn] at hL
      refine gor hL ?_; (repeat (clear hL; intro t hL; refine gor hL ?_))
      exact ⟨hL.pk, by first | rfl | simp +decide only [pvc, pvi, pvt], by first | rfl | simp +decide only [pvc, pvi, pvt]⟩
  have n11 : ¬ x.op = 11 := by simpa using c11
  simp only [actV, if_neg n1, if_neg n2, if_neg n3, if_neg n4, if_neg n5, if_neg n6, if_neg n7, if_neg n11] at hgo
  rw [set_self] at hgo
  refine gor hL ?_; (repeat (clear hL; intro t hL; refine gor hL ?_))
  refine gnm ?_; rw [IntWalk.i64_in ((i : Int) + 1) (by omega)]
  exact ⟨g, by omega, i + 1, _, by omega, by first | rfl | simp +decide only [pvc, pvi, pvt], hL.pk, hR, by omega, hgo⟩
end Go.Pv
