/- Functions of the program, by value. No condition. -/
import Derived.Test.YtmcdhendjlijhaaX4
import Derived.Test.YtmcdhendjlijhaaX6
import Derived.Test.YtmcdhendjlijhaaP32
import Derived.Test.YtmcdhendjlijhaaV8
namespace Go.Pv
open Go.Proofs
set_option maxRecDepth 100000
set_option maxHeartbeats 8000000

/-- prompter/prompterlaw10.Program -/
abbrev c11_10 : PCode :=
 (.region [⟨(.some 40), (.faddr 3 (.t 5)), .none⟩,
   ⟨(.some 41), (.load .false 1 (.t 40) .true), .none⟩,
   ⟨(.some 42), (.bin .rem (.t 41) (.c (.d (.int .u8 4)))), .none⟩,
   ⟨(.some 43), (.bin .add (.c (.d (.int .u8 1))) (.t 42)), .none⟩,
   ⟨(.some 44), (.faddr 4 (.t 5)), .none⟩,
   ⟨(.some 45), (.load .false 1 (.t 44) .true), .none⟩,
   ⟨(.some 46), (.bin .and (.t 45) (.c (.d (.int .i16 7)))), .none⟩,
   ⟨(.some 47), (.bin .add (.c (.d (.int .i16 1))) (.t 46)), .none⟩,
   ⟨(.some 48), (.faddr 3 (.t 6)), .none⟩,
   ⟨.none, (.store 1 (.t 48) (.t 43)), .none⟩,
   ⟨(.some 49), (.faddr 4 (.t 6)), .none⟩,
   ⟨.none, (.store 1 (.t 49) (.t 47)), .none⟩])
abbrev c11_13 : PCode :=
 (.region [⟨(.some 52), (.faddr 4 (.t 5)), .none⟩,
   ⟨(.some 53), (.load .false 1 (.t 52) .false), .none⟩,
   ⟨(.some 54), (.bin .and (.t 53) (.c (.d (.int .i16 3)))), .none⟩,
   ⟨(.some 55), (.bin .add (.c (.d (.int .i16 1))) (.t 54)), .none⟩,
   ⟨(.some 56), (.faddr 4 (.t 6)), .none⟩,
   ⟨.none, (.store 1 (.t 56) (.t 55)), .none⟩])
abbrev c11_16 : PCode :=
 (.region [⟨(.some 59), (.faddr 4 (.t 5)), .none⟩,
   ⟨(.some 60), (.load .false 1 (.t 59) .false), .none⟩,
   ⟨(.some 61), (.bin .and (.t 60) (.c (.d (.int .i16 31)))), .none⟩,
   ⟨(.some 62), (.faddr 4 (.t 6)), .none⟩,
   ⟨.none, (.store 1 (.t 62) (.t 61)), .none⟩])
abbrev c11_15 : PCode :=
 (.cond (.t 57)
  c11_16
  .skip)
abbrev c11_14 : PCode :=
 (.seq (.region [⟨(.some 58), (.bin .eql (.t 37) (.c (.d (.int .u8 10)))), .none⟩,
   ⟨(.some 57), (.mov (.t 58)), .none⟩])
 c11_15)
abbrev c11_12 : PCode :=
 (.cond (.t 50)
  c11_13
  c11_14)
abbrev c11_11 : PCode :=
 (.seq (.region [⟨(.some 51), (.bin .eql (.t 37) (.c (.d (.int .u8 8)))), .none⟩,
   ⟨(.some 50), (.mov (.t 51)), .none⟩])
 c11_12)
abbrev c11_9 : PCode :=
 (.cond (.t 38)
  c11_10
  c11_11)
abbrev c11_8 : PCode :=
 (.block 2 (.seq (.region [⟨(.some 39), (.bin .eql (.t 37) (.c (.d (.int .u8 9)))), .none⟩,
   ⟨(.some 38), (.mov (.t 39)), .none⟩])
 c11_9))
abbrev c11_17 : PCode :=
 (.region [⟨(.some 63), (.mov (.t 3)), .none⟩,
   ⟨(.some 64), (.load .true 5 (.t 6) .false), .none⟩,
   ⟨(.some 65), (.bsl 5 [(.t 64)]), .none⟩,
   ⟨(.some 66), (.appB 5 6 (.t 63) (.t 65)), .none⟩,
   ⟨(.some 3), (.mov (.t 66)), .none⟩])
abbrev c11_7 : PCode :=
 (.keep [3, 5, 6, 12, 13, 14] (.seq (.seq (.region [⟨(.some 36), (.faddr 0 (.t 6)), .none⟩,
   ⟨(.some 37), (.load .false 1 (.t 36) .false), .none⟩])
 c11_8)
 c11_17))
abbrev c11_6 : PCode :=
 (.seq (.region [⟨(.some 21), (.faddr 0 (.t 5)), .none⟩,
   ⟨(.some 22), (.load .false 1 (.t 21) .false), .none⟩,
   ⟨(.some 23), (.bin .rem (.t 22) (.c (.d (.int .u8 12)))), .none⟩,
   ⟨(.some 24), (.faddr 1 (.t 5)), .none⟩,
   ⟨(.some 25), (.load .false 1 (.t 24) .false), .none⟩,
   ⟨(.some 26), (.bin .rem (.t 25) (.c (.d (.int .u8 16)))), .none⟩,
   ⟨(.some 27), (.faddr 2 (.t 5)), .none⟩,
   ⟨(.some 28), (.load .false 1 (.t 27) .false), .none⟩,
   ⟨(.some 29), (.bin .rem (.t 28) (.c (.d (.int .u8 16)))), .none⟩,
   ⟨(.some 30), (.faddr 3 (.t 5)), .none⟩,
   ⟨(.some 31), (.load .false 1 (.t 30) .false), .none⟩,
   ⟨(.some 32), (.bin .rem (.t 31) (.c (.d (.int .u8 16)))), .none⟩,
   ⟨(.some 33), (.faddr 4 (.t 5)), .none⟩,
   ⟨(.some 34), (.load .false 1 (.t 33) .false), .none⟩,
   ⟨(.some 35), (.bld [(.d (.int .u8 0)), (.d (.int .u8 0)), (.d (.int .u8 0)), (.d (.int .u8 0)), (.d (.int .i16 0))] [(0, (1, (.t 23))), (1, (1, (.t 26))), (2, (1, (.t 29))), (3, (1, (.t 32))), (4, (1, (.t 34)))]), .none⟩,
   ⟨(.some 6), (.alloc [(.d (.int .u8 0)), (.d (.int .u8 0)), (.d (.int .u8 0)), (.d (.int .u8 0)), (.d (.int .i16 0))]), .none⟩,
   ⟨.none, (.store 5 (.t 6) (.t 35)), .none⟩])
 c11_7)
abbrev c11_5 : PCode :=
 (.cond (.t 20)
  c11_6
  .skip)
abbrev c11_4 : PCode :=
 (.keep [3, 4, 5, 12, 13, 14] (.seq (.region [⟨(.some 19), (.mov (.t 4)), .none⟩,
   ⟨(.some 20), (.bin .lss (.t 19) (.c (.d (.int .i64 16)))), .none⟩])
 c11_5))
abbrev c11_3 : PCode :=
 (.block 1 (.seq (.region [⟨(.some 16), (.mov (.t 14)), .none⟩,
   ⟨(.some 17), (.iaddr 6 (.t 12) (.t 14)), .none⟩,
   ⟨(.some 18), (.load .true 6 (.t 17) .false), .none⟩,
   ⟨(.some 5), (.alloc [(.d (.int .u8 0)), (.d (.int .u8 0)), (.d (.int .u8 0)), (.d (.int .u8 0)), (.d (.int .i16 0)), (.d (.bool .false))]), .none⟩,
   ⟨(.some 4), (.mov (.t 16)), .none⟩,
   ⟨.none, (.store 6 (.t 5) (.t 18)), .none⟩])
 c11_4))
abbrev c11_2 : PCode :=
 (.keep [3, 12, 13, 14] (.block 0 (.loop (.some [14, 3, 12, 13]) (.seq (.region [⟨(.some 15), (.bin .lss (.t 14) (.t 13)), .none⟩])
 (.seq (.cond (.t 15)
  .skip
  (.exit 0))
 (.seq c11_3
 (.region [⟨(.some 67), (.bin .add (.t 14) (.c (.d (.int .i64 1)))), .none⟩,
   ⟨(.some 14), (.mov (.t 67)), .none⟩])))))))
abbrev c11_30 : PCode :=
 (.region [⟨(.some 115), (.mov (.t 8)), .none⟩,
   ⟨(.some 7), (.mov (.t 115)), .none⟩])
abbrev c11_29 : PCode :=
 (.cond (.t 114)
  c11_30
  .skip)
abbrev c11_28 : PCode :=
 (.keep [3, 7, 8, 9, 10, 68, 71, 72] (.seq (.region [⟨(.some 101), (.mov (.t 9)), .none⟩,
   ⟨(.some 102), (.bin .eql (.t 101) (.c (.d (.int .u8 9)))), .none⟩,
   ⟨(.some 103), (.mov (.t 102)), .none⟩,
   ⟨(.some 104), (.mov (.t 10)), (.some (103, .false))⟩,
   ⟨(.some 105), (.call0 12 [(.t 104)]), (.some (103, .false))⟩,
   ⟨(.some 106), (.bin .neq (.t 105) (.c (.d (.int .i64 0)))), (.some (103, .false))⟩,
   ⟨(.some 107), (.pick (.t 103) (.c (.d (.bool .true))) (.t 106)), .none⟩,
   ⟨(.some 108), (.mov (.t 107)), .none⟩,
   ⟨(.some 109), (.mov (.t 8)), (.some (108, .false))⟩,
   ⟨(.some 110), (.mov (.t 3)), (.some (108, .false))⟩,
   ⟨(.some 111), (.len (.t 110)), (.some (108, .false))⟩,
   ⟨(.some 112), (.bin .sub (.t 111) (.c (.d (.int .i64 1)))), (.some (108, .false))⟩,
   ⟨(.some 113), (.bin .eql (.t 109) (.t 112)), (.some (108, .false))⟩,
   ⟨(.some 114), (.pick (.t 108) (.c (.d (.bool .true))) (.t 113)), .none⟩])
 c11_29))
abbrev c11_27 : PCode :=
 (.seq (.region [⟨(.some 95), (.bsl 5 []), .none⟩,
   ⟨(.some 96), (.mov (.t 3)), .none⟩,
   ⟨(.some 97), (.mov (.t 8)), .none⟩,
   ⟨(.some 98), (.bin .add (.t 97) (.c (.d (.int .i64 1)))), .none⟩,
   ⟨(.some 99), (.slc 5 (.t 96) .none (.some (.t 98))), .none⟩,
   ⟨(.some 100), (.appB 5 6 (.t 95) (.t 99)), .none⟩,
   ⟨(.some 10), (.mov (.t 100)), .none⟩])
 c11_28)
abbrev c11_26 : PCode :=
 (.cond (.t 94)
  c11_27
  .skip)
abbrev c11_25 : PCode :=
 (.keep [3, 7, 8, 9, 68, 71, 72] (.seq (.region [⟨(.some 80), (.mov (.t 7)), .none⟩,
   ⟨(.some 81), (.bin .lss (.t 80) (.c (.d (.int .i64 0)))), .none⟩,
   ⟨(.some 82), (.mov (.t 81)), .none⟩,
   ⟨(.some 83), (.mov (.t 3)), (.some (82, .true))⟩,
   ⟨(.some 84), (.call0 12 [(.t 83)]), (.some (82, .true))⟩,
   ⟨(.some 85), (.bin .neq (.t 84) (.c (.d (.int .i64 0)))), (.some (82, .true))⟩,
   ⟨(.some 86), (.pick (.t 82) (.t 85) (.c (.d (.bool .false)))), .none⟩,
   ⟨(.some 87), (.mov (.t 86)), .none⟩,
   ⟨(.some 88), (.mov (.t 9)), (.some (87, .true))⟩,
   ⟨(.some 89), (.bin .eql (.t 88) (.c (.d (.int .u8 9)))), (.some (87, .true))⟩,
   ⟨(.some 90), (.mov (.t 89)), (.some (87, .true))⟩,
   ⟨(.some 91), (.mov (.t 9)), (.some (90, .false))⟩,
   ⟨(.some 92), (.bin .eql (.t 91) (.c (.d (.int .u8 8)))), (.some (90, .false))⟩,
   ⟨(.some 93), (.pick (.t 90) (.c (.d (.bool .true))) (.t 92)), (.some (87, .true))⟩,
   ⟨(.some 94), (.pick (.t 87) (.t 93) (.c (.d (.bool .false)))), .none⟩])
 c11_26))
abbrev c11_24 : PCode :=
 (.seq (.region [⟨(.some 75), (.mov (.t 3)), .none⟩,
   ⟨(.some 76), (.mov (.t 8)), .none⟩,
   ⟨(.some 77), (.iaddr 5 (.t 75) (.t 76)), .none⟩,
   ⟨(.some 78), (.faddr 0 (.t 77)), .none⟩,
   ⟨(.some 79), (.load .false 1 (.t 78) .false), .none⟩,
   ⟨(.some 9), (.mov (.t 79)), .none⟩])
 c11_25)
abbrev c11_23 : PCode :=
 (.block 6 (.seq (.region [⟨(.some 74), (.mov (.t 72)), .none⟩,
   ⟨(.some 8), (.mov (.t 74)), .none⟩])
 c11_24))
abbrev c11_22 : PCode :=
 (.keep [3, 7, 68, 71, 72] (.block 5 (.loop (.some [72, 7, 3, 68, 71]) (.seq (.region [⟨(.some 73), (.bin .lss (.t 72) (.t 71)), .none⟩])
 (.seq (.cond (.t 73)
  .skip
  (.exit 5))
 (.seq c11_23
 (.region [⟨(.some 116), (.bin .add (.t 72) (.c (.d (.int .i64 1)))), .none⟩,
   ⟨(.some 72), (.mov (.t 116)), .none⟩])))))))
abbrev c11_33 : PCode :=
 (.exit 3)
abbrev c11_32 : PCode :=
 (.cond (.t 118)
  c11_33
  .skip)
abbrev c11_34 : PCode :=
 (.keep [3, 7, 68] (.region [⟨(.some 119), (.mov (.t 3)), .none⟩,
   ⟨(.some 120), (.mov (.t 7)), .none⟩,
   ⟨(.some 121), (.bld [(.d (.int .u8 0)), (.d (.int .u8 0)), (.d (.int .u8 0)), (.d (.int .u8 0)), (.d (.int .i16 0))] [(0, (1, (.c (.d (.int .u8 2)))))]), .none⟩,
   ⟨(.some 122), (.iaddr 5 (.t 119) (.t 120)), .none⟩,
   ⟨.none, (.store 5 (.t 122) (.t 121)), .none⟩]))
abbrev c11_31 : PCode :=
 (.seq (.seq (.region [⟨(.some 117), (.mov (.t 7)), .none⟩,
   ⟨(.some 118), (.bin .lss (.t 117) (.c (.d (.int .i64 0)))), .none⟩])
 c11_32)
 c11_34)
abbrev c11_21 : PCode :=
 (.seq (.seq (.region [⟨(.some 70), (.mov (.t 3)), .none⟩,
   ⟨(.some 71), (.len (.t 70)), .none⟩,
   ⟨(.some 72), (.mov (.c (.d (.int .i64 0)))), .none⟩])
 c11_22)
 c11_31)
abbrev c11_20 : PCode :=
 (.block 4 (.seq (.region [⟨(.some 7), (.mov (.c (.d (.int .i64 (-1))))), .none⟩])
 c11_21))
abbrev c11_19 : PCode :=
 (.block 3 (.loop (.some [68, 3]) (.seq (.region [⟨(.some 69), (.bin .lss (.t 68) (.c (.d (.int .i64 40)))), .none⟩])
 (.seq (.cond (.t 69)
  .skip
  (.exit 3))
 (.seq c11_20
 (.region [⟨(.some 123), (.bin .add (.t 68) (.c (.d (.int .i64 1)))), .none⟩,
   ⟨(.some 68), (.mov (.t 123)), .none⟩]))))))
abbrev c11_40 : PCode :=
 (.region [⟨(.some 148), (.mov (.t 3)), .none⟩,
   ⟨(.some 149), (.mov (.t 11)), .none⟩,
   ⟨(.some 150), (.bld [(.d (.int .u8 0)), (.d (.int .u8 0)), (.d (.int .u8 0)), (.d (.int .u8 0)), (.d (.int .i16 0))] [(0, (1, (.c (.d (.int .u8 2)))))]), .none⟩,
   ⟨(.some 151), (.iaddr 5 (.t 148) (.t 149)), .none⟩,
   ⟨.none, (.store 5 (.t 151) (.t 150)), .none⟩])
abbrev c11_39 : PCode :=
 (.cond (.t 147)
  c11_40
  .skip)
abbrev c11_38 : PCode :=
 (.seq (.region [⟨(.some 129), (.mov (.t 3)), .none⟩,
   ⟨(.some 130), (.call0 12 [(.t 129)]), .none⟩,
   ⟨(.some 131), (.bin .neq (.t 130) (.c (.d (.int .i64 0)))), .none⟩,
   ⟨(.some 132), (.mov (.t 131)), .none⟩,
   ⟨(.some 133), (.mov (.t 3)), (.some (132, .true))⟩,
   ⟨(.some 134), (.mov (.t 11)), (.some (132, .true))⟩,
   ⟨(.some 135), (.iaddr 5 (.t 133) (.t 134)), (.some (132, .true))⟩,
   ⟨(.some 136), (.faddr 0 (.t 135)), (.some (132, .true))⟩,
   ⟨(.some 137), (.load .false 1 (.t 136) .false), (.some (132, .true))⟩,
   ⟨(.some 138), (.bin .eql (.t 137) (.c (.d (.int .u8 8)))), (.some (132, .true))⟩,
   ⟨(.some 139), (.mov (.t 138)), (.some (132, .true))⟩,
   ⟨(.some 140), (.mov (.t 3)), (.some (139, .false))⟩,
   ⟨(.some 141), (.mov (.t 11)), (.some (139, .false))⟩,
   ⟨(.some 142), (.iaddr 5 (.t 140) (.t 141)), (.some (139, .false))⟩,
   ⟨(.some 143), (.faddr 0 (.t 142)), (.some (139, .false))⟩,
   ⟨(.some 144), (.load .false 1 (.t 143) .false), (.some (139, .false))⟩,
   ⟨(.some 145), (.bin .eql (.t 144) (.c (.d (.int .u8 9)))), (.some (139, .false))⟩,
   ⟨(.some 146), (.pick (.t 139) (.c (.d (.bool .true))) (.t 145)), (.some (132, .true))⟩,
   ⟨(.some 147), (.pick (.t 132) (.t 146) (.c (.d (.bool .false)))), .none⟩])
 c11_39)
abbrev c11_37 : PCode :=
 (.block 8 (.seq (.region [⟨(.some 128), (.mov (.t 126)), .none⟩,
   ⟨(.some 11), (.mov (.t 128)), .none⟩])
 c11_38))
abbrev c11_36 : PCode :=
 (.keep [3, 125, 126] (.block 7 (.loop (.some [126, 3, 125]) (.seq (.region [⟨(.some 127), (.bin .lss (.t 126) (.t 125)), .none⟩])
 (.seq (.cond (.t 127)
  .skip
  (.exit 7))
 (.seq c11_37
 (.region [⟨(.some 152), (.bin .add (.t 126) (.c (.d (.int .i64 1)))), .none⟩,
   ⟨(.some 126), (.mov (.t 152)), .none⟩])))))))
abbrev c11_41 : PCode :=
 (.seq (.region [⟨(.some 153), (.mov (.t 3)), .none⟩,
   ⟨(.some 2), (.mov (.t 153)), .none⟩])
 .ret)
abbrev c11_35 : PCode :=
 (.keep [3] (.seq (.seq (.region [⟨(.some 124), (.mov (.t 3)), .none⟩,
   ⟨(.some 125), (.len (.t 124)), .none⟩,
   ⟨(.some 126), (.mov (.c (.d (.int .i64 0)))), .none⟩])
 c11_36)
 c11_41))
abbrev c11_18 : PCode :=
 (.seq (.seq (.region [⟨(.some 68), (.mov (.c (.d (.int .i64 0)))), .none⟩])
 c11_19)
 c11_35)
abbrev c11_1 : PCode :=
 (.seq (.seq (.region [⟨(.some 12), (.mov (.t 0)), .none⟩,
   ⟨(.some 13), (.len (.t 12)), .none⟩,
   ⟨(.some 14), (.mov (.c (.d (.int .i64 0)))), .none⟩])
 c11_2)
 c11_18)
abbrev c11_0 : PCode :=
 (.seq (.region [⟨(.some 3), (.mov (.c (.full []))), .none⟩])
 c11_1)
def c11 : PFun := ⟨
 (.seq (.region [⟨(.some 2), (.mov (.c (.full []))), .none⟩])
 c11_0),
 1, 154, [(.tmp 2)]⟩

theorem e11 : entered Try.prog 11 = true := by kernel_rfl
theorem k11 : compFun Try.prog (fun i => if i = 9 then 2 else if i = 14 then 8 else if i = 24 then 8 else 0) 11 = some c11.er := by kernel_rfl


theorem cl_thaw {E : PE} {f : FuncId} {rows : List (List Dat)} {sz n : Nat} {d : Dat} (h : Pure (PCalls Try.prog GG) f [.d (.sl rows)] (.d d)) (hd : d.flat = true) {b cap : Nat} {cells rest : List AV}
    (hw : cells.map AV.weak1 = rows.flatten.map .d ++ rest) (hs : ∀ r ∈ rows, r.length = sz) (hn : rows.length = n) : CL (PCallsE Try.prog GG E) f [.bsl b 0 n cap] [.box b cells] (fun _ : Unit => .d d) (fun _ => [.box b cells]) := by
  subst hn
  refine ⟨fun N => ⟨(), fun x hx => ?_, by simp⟩, fun st t hL => pcalls_mono (PCalls.thaw h hd (hL.bx Rem.head) hw hs) (fun r st' ⟨e1, e2⟩ => ⟨(), e2, by rw [e1]; exact hL⟩) fun _ _ _ => ⟨_, _, rfl, rfl⟩⟩
  rw [List.mem_singleton.1 hx]
  exact .inl ⟨_, List.mem_singleton.2 rfl, _, rfl⟩

/-- A program in the making: a variable's row. -/
def cellsP (p : List Ins) (rest : List AV) : List AV := (p.map Ins.row).flatten.map .d ++ rest
theorem rows5 {p : List Ins} : ∀ r ∈ p.map Ins.row, r.length = 5 := fun r hr => by obtain ⟨x, _, rfl⟩ := List.mem_map.1 hr; rfl
inductive RowF : AV → List Ins → List Item → Prop where
  | none : RowF (.full []) [] []
  | row (b cap : Nat) (p : List Ins) (rest : List AV) (h0 : p ≠ []) (hc : p.length ≤ cap) (hr : rest.length = (cap - p.length) * 5) : RowF (.bsl b 0 p.length cap) p [.box b (cellsP p rest)]

theorem cellsP_fl (p : List Ins) : ((p.map Ins.row).flatten.map AV.d).length = p.length * 5 := by
  rw [List.length_map, flat_len rows5, List.length_map]
theorem cellsP_len {p : List Ins} {rest : List AV} : (cellsP p rest).length = p.length * 5 + rest.length := by
  rw [cellsP, List.length_append, cellsP_fl]
theorem cellsP_push (p : List Ins) (rest R : List AV) (i : Ins) : (cellsP p rest).take (p.length * 5) ++ ([i.row] : List (List Dat)).flatten.map AV.d ++ R = cellsP (p ++ [i]) R := by
  rw [cellsP, List.take_left' (cellsP_fl p), cellsP, List.map_append, List.flatten_append, List.map_append]; rfl
theorem cellsP_drop (p : List Ins) (rest : List AV) (n : Nat) : (cellsP p rest).drop (p.length * 5 + n) = rest.drop n := by
  rw [cellsP, ← List.drop_drop, List.drop_left' (cellsP_fl p)]
theorem po_push {G : Glob} {C : CallsP} {a : AV} {p : List Ins} {F X : List Item} {i : Ins} {st t : St} {x y : Arg} {d : Option Nat} {rest : List POper} {K : Go.Pv.X → Prop} {s : Slots} {m : Mx} (hF : RowF a p F) (hL : Lay st (X ++ F) t) (hm : m.st = t) (hx : x.ev G s = a) (hy : (y.ev G s).rows? = some [i.row]) (hfit : p.length < 2 ^ 30)
    (h : ∀ a' F' t' m', RowF a' (p ++ [i]) F' → Lay st F' t' → m'.st = t' → pops G C rest K ⟨put s d a', m'⟩) : pops G C (⟨d, .appB 5 6 x y, none⟩ :: rest) K ⟨s, m⟩ := by
  have hL0 : Lay st F t := (hL.perm List.perm_append_comm).left
  have hlen : (p ++ [i]).length = p.length + 1 := by simp
  cases hF with
  | none =>
    refine po_appBL hL0 hm hx hy (fun r hr => by rw [List.mem_singleton.1 hr]; rfl) (by simp) (fun e => by cases e) fun b cap t' _ hc hL' => ?_
    exact h _ _ t' _ (.row b cap [i] (List.replicate ((cap - 1) * 5) .undef) (by simp) hc (by simp)) hL' rfl
  | row b cap p rest h0 hc hr =>
    rw [pops_plain]
    unfold ostep
    simp only [nf, hx, hy]
    have hb : t.box b = some (cellsP p rest) := hL0.bx Rem.head
    have hcl : (cellsP p rest).length = cap * 5 := by rw [cellsP_len, hr, Nat.sub_mul]; omega
    refine ⟨fun r hr => by rw [List.mem_singleton.1 hr]; rfl, rfl, hc, cellsP p rest, by rw [hm]; exact hb, hcl, by simp; omega, ?_⟩
    rw [if_neg (by simp)]
    rw [List.length_singleton, cellsP_push]
    split
    · rename_i hroom
      rw [show 1 * 5 = 5 from rfl, cellsP_drop, ← hlen]
      exact h _ _ _ _ (.row b cap (p ++ [i]) (rest.drop 5) (by simp) (by omega) (by rw [List.length_drop, hr, hlen]; omega)) (by rw [hm]; exact hL0.store _) rfl
    · rename_i hroom
      intro b' cap' hb' hc'
      rw [cellsP_push, ← hlen]
      exact h _ _ _ _ (.row b' cap' (p ++ [i]) (List.replicate ((cap' - (p ++ [i]).length) * 5) .undef) (by simp) (by omega) (by rw [List.length_replicate])) ((hL0.alloc (by rw [← hm]; exact hb') _).pick (.cons .head .nil)) (by rw [hm]; rfl)

theorem cellsP_weak (p : List Ins) (rest : List AV) : (cellsP p rest).map AV.weak1 = (p.map Ins.row).flatten.map .d ++ rest.map AV.weak1 := by
  rw [cellsP, List.map_append, List.map_map]; rfl
theorem cellsP_op {p : List Ins} {rest : List AV} {k : Nat} {x : Ins} (hx : p[k]? = some x) : ldv false 1 ((cellsP p rest).drop (k * 5 + 0)) = some (.d (.int .u8 x.op)) := by
  obtain ⟨hk, rfl⟩ := List.getElem?_eq_some_iff.1 hx
  have e : p = p.take k ++ p[k] :: p.drop (k + 1) := by simp
  have hl : ((p.take k).map Ins.row).flatten.length = k * 5 := by rw [flat_len rows5, List.length_map, List.length_take]; congr 1; omega
  have : (cellsP p rest).drop (k * 5 + 0) = p[k].row.map AV.d ++ (((p.drop (k + 1)).map Ins.row).flatten.map .d ++ rest) := by
    conv => lhs; rw [e]
    rw [cellsP, List.map_append, List.flatten_append, List.map_append, List.append_assoc, Nat.add_zero, List.drop_left' (by rw [List.length_map, hl])]
    rw [List.map_cons, List.flatten_cons, List.map_append, List.append_assoc]
  rw [this]
  rfl

theorem cellsP_take (p : List Ins) (rest : List AV) {n : Nat} (hn : n ≤ p.length) : ((cellsP p rest).drop 0).take (n * 5) = ((p.take n).map Ins.row).flatten.map .d := by
  have e : p = p.take n ++ p.drop n := by simp
  conv => lhs; rw [e]
  rw [cellsP, List.drop_zero, List.map_append, List.flatten_append, List.map_append, List.append_assoc, List.take_left' (by rw [cellsP_fl, List.length_take]; congr 1; omega)]

theorem base_succ {l : List Sm10} {k : Nat} {y : Sm10} (hy : l[k]? = some y) (hk : k < 16) : ((l.take (k + 1)).take 16).map tame = ((l.take k).take 16).map tame ++ [tame y] := by
  rw [List.take_take, List.take_take, show min 16 (k + 1) = k + 1 by omega, show min 16 k = k by omega, List.take_add_one, hy, List.map_append]; rfl
theorem base_full {l : List Sm10} {k : Nat} (hk : ¬ k < 16) : ((l.take (k + 1)).take 16).map tame = ((l.take k).take 16).map tame := by
  rw [List.take_take, List.take_take, show min 16 (k + 1) = 16 by omega, show min 16 k = 16 by omega]
theorem low_wrap (n : Int) {m : Nat} (hm : m < 32768) : IntKind.i16.wrap ((BitVec.ofInt IntKind.i16.bits n &&& BitVec.ofInt IntKind.i16.bits m).toNat : Int) = low n m :=
  IntWalk.i16_in (low n m) (by have := low_le n hm; omega)

theorem C11 (l : List Sm10) (hl : ∀ x ∈ l, x.fit) (hll : l.length < 2 ^ 63) :
    Pure (PCalls Try.prog GG) 11 [.d (.sl (l.map Sm10.row))] (.d (.sl ((prgM l).map Ins.row))) := by
  have hll2 : l.length < 9223372036854775808 := by omega
  intro st; refine pcalls_of k11 e11 (of_decide_eq_true rfl) ?_; dsimp only [c11]; refine pstartL ?_; intro t hL; generalize hQ : pfin _ _ = Q
  refine gor hL ?_; (repeat (clear hL; intro t hL; refine gor hL ?_))
  (apply prangeA (l.length) (by omega) (fun a z => put z (some 3) a) (fun k a t => ∃ F, RowF a (((l.take k).take 16).map tame) F ∧ Lay st F t) ((AV.full []))); (· exact trimA); (· exact fun _ _ => rfl)
  · exact ⟨[], .none, hL⟩
  · rintro a t ⟨F, hF, hL⟩
    rw [List.take_length] at hF
    obtain ⟨hchk, htm, hpl2⟩ := prgM_ok hl
    have hbt := base_tm hl
    have hbl := base_len l
    have hpm : prgM l = fixN 40 ((l.take 16).map tame) := rfl
    generalize (l.take 16).map tame = p0 at *
    refine pjoinF (fun s t => ∃ v, (v = .d (.sl ((prgM l).map Ins.row)) ∨ v = .full ((prgM l).map Ins.row)) ∧ s = put (fun _ => .undef) (some 3) v ∧ Lay st [] t) ?_ ?_
    · cases hF with
      | none =>
        have h0 : prgM l = [] := hpm
        refine gor hL ?_; (repeat (clear hL; intro t hL; refine gor hL ?_))
        refine pblock (pupA 0 (fun k s t => k = 0 ∧ s = put (put (fun _ => .undef) (some 3) (.full [])) (some 68) (i64 (0 : Int)) ∧ Lay st [] t) ⟨rfl, trimA, hL⟩ ?_)
        clear hL
        rintro k s t hk ⟨rfl, rfl, hL⟩
        refine gor hL ?_; (repeat (clear hL; intro t hL; refine gor hL ?_))
        (apply prangeJ (0) (by omega) (fun _ t => Lay st [] t)); (· exact trimA); (· exact fun _ => rfl)
        · exact hL
        · intro t hL
          refine gor hL ?_; (repeat (clear hL; intro t hL; refine gor hL ?_))
          exact ⟨_, t, .refl _ _, _, .inr (by rw [h0]), (by first | rfl | exact trimA), hL⟩
        · intro k hk; omega
      | row b cap _ rest h0 hc hr =>
        have fin : ∀ (Z : Slots) (p : List Ins) (t : St), Z = put (fun _ => .undef) (some 3) (.bsl b 0 p.length cap) → p = prgM l → Lay st [.box b (cellsP p rest)] t →
            ∃ s2 t2, Frz Z t s2 t2 ∧ ∃ v, (v = .d (.sl ((prgM l).map Ins.row)) ∨ v = .full ((prgM l).map Ins.row)) ∧ s2 = put (fun _ => .undef) (some 3) v ∧ Lay st [] t2 := by
          intro Z p t hZ hp hL
          obtain ⟨t2, hz, hL2⟩ := hL.frz rows5 (cellsP_weak p rest)
          refine ⟨_, t2, hz _, _, .inl rfl, ?_, hL2⟩
          rw [hZ, ← hp]
          simp only [frz_put, frz_undef]
          rw [show AV.frz b (p.map Ins.row) (.bsl b 0 p.length cap) = .d (.sl (p.map Ins.row)) from if_pos ⟨rfl, rfl, by rw [List.length_map]⟩]
        refine gor hL ?_; (repeat (clear hL; intro t hL; refine gor hL ?_))
        refine pblock (pupA 40 (fun k s t => ∃ p, p.length = p0.length ∧ (∀ x ∈ p, Tm x) ∧ fixN (40 - k) p = prgM l ∧ s = put (put (fun _ => .undef) (some 3) (.bsl b 0 p.length cap)) (some 68) (i64 k) ∧ Lay st [.box b (cellsP p rest)] t) ⟨p0, rfl, hbt, hpm.symm, trimA, hL⟩ ?_)
        clear hL
        rintro k s t hk ⟨p, hpl, ht, hfx, rfl, hL⟩
        have hpl' : p.length ≤ 16 := by omega
        have hck : ∀ q : List Ins, (∀ x ∈ q, x ∈ p) → q.length ≤ 16 → Pure (PCalls Try.prog GG) 12 [.d (.sl (q.map Ins.row))] (.d (.int .i64 (checkP q))) := fun q hq hql => C12 q (fun x hx => (ht x (hq x hx)).fit) (by omega)
        refine gor hL ?_; (repeat (clear hL; intro t hL; refine gor hL ?_))
        refine pcond_b rfl (fun h40 => ?_) (fun h40 => ?_)
        · have hk40 : k < 40 := by simp at h40; omega
          refine gor hL ?_; (repeat (clear hL; intro t hL; refine gor hL ?_))
          (apply prangeA (p.length) (by omega) (fun a z => put z (some 7) (i64 a)) (fun k a t => a = badK p k ∧ Lay st [.box b (cellsP p rest)] t) ((-1 : Int))); (· exact trimA); (· exact fun _ _ => rfl)
          · exact ⟨(badK_0 p).symm, hL⟩
          · rintro a t ⟨ha, hL⟩
            rw [badK_len] at ha
            refine gor hL ?_; (repeat (clear hL; intro t hL; refine gor hL ?_))
            refine pcond_b rfl (fun ha0 => ?_) (fun ha0 => ?_)
            · have ha0' : a < 0 := by simpa using ha0
              refine gor hL ?_; (repeat (clear hL; intro t hL; refine gor hL ?_))
              exact fin _ p t (by first | rfl | exact trimA) (by rw [← hfx, fixN_stop (by omega)]) hL
            · have ha0' : ¬ badI p < 0 := by simp at ha0; omega
              obtain ⟨x, hx, hj, hi, hn⟩ := badI_some ha0'
              have hfx2 : fixN (40 - (k + 1)) (p.set (badI p).toNat mvI) = prgM l := by
                rw [← hfx, show 40 - k = (40 - (k + 1)) + 1 by omega, fixN, if_neg ha0']
              rw [ha]
              generalize (badI p).toNat = bi at *
              refine gor hL ?_; (repeat (clear hL; intro t hL; refine gor hL ?_))
              refine gnm ?_; rw [hn]
              refine gor hL ?_; (repeat (clear hL; intro t hL; refine gor hL ?_))
              refine po rfl (iaddr_bslZ rfl rfl hi) ?_
              refine po_storeL (cs := mvI.row.map AV.d) hL rfl rfl (by repeat (first | exact Rem.head | apply Rem.tail)) rfl ⟨rfl, rfl⟩ (by show _ ≤ (cellsP p rest).length; rw [cellsP_len]; omega) (set_cells (r := mvI.row) rows5 (by rw [List.length_map]; exact hi) rest) (fun _ _ _ h => False.elim h) ?_
              clear hL; intro t hL
              rw [map_set Ins.row p bi mvI] at hL
              refine gor hL ?_; (repeat (clear hL; intro t hL; refine gor hL ?_))
              exact ⟨hk40, p.set bi mvI, by rw [List.length_set, hpl], set_tm ht _, hfx2, by rw [List.length_set, IntWalk.i64_in _ (by omega)]; rfl, hL⟩
          · rintro j hj a t ⟨ha, hL⟩
            obtain ⟨x, hx, hxm⟩ := elem_at hj
            have hsucc := badK_succ hx
            refine pblock ?_
            refine gor hL ?_; (repeat (clear hL; intro t hL; refine gor hL ?_))
            refine po rfl (iaddr_bslZ rfl rfl hj) ?_
            refine gor hL ?_; (repeat (clear hL; intro t hL; refine gor hL ?_))
            refine po_loadL hL rfl rfl (by repeat (first | exact Rem.head | apply Rem.tail)) (cellsP_op hx) ?_
            refine gor hL ?_; (repeat (clear hL; intro t hL; refine gor hL ?_))
            by_cases ha0 : a < 0
            · refine gnm ?_; rw [show decide (a < 0) = true from decide_eq_true ha0]
              refine gor hL ?_; (repeat (clear hL; intro t hL; refine gor hL ?_))
              refine po_callK hL (cl_thaw (hck p (fun _ h => h) hpl') rfl (cellsP_weak p rest) rows5 (by rw [List.length_map])) ?_
              clear hL; intro _ t hL
              refine gor hL ?_; (repeat (clear hL; intro t hL; refine gor hL ?_))
              by_cases hc0 : checkP p = 0
              · refine gnm ?_; rw [show (checkP p != 0) = false by simp [hc0]]
                refine gor hL ?_; (repeat (clear hL; intro t hL; refine gor hL ?_))
                exact ⟨a, ⟨by rw [hsucc, if_neg (fun h => h.2.1 hc0), ha], hL⟩, tr2⟩
              · refine gnm ?_; rw [show (checkP p != 0) = true by simp [hc0]]
                refine gor hL ?_; (repeat (clear hL; intro t hL; refine gor hL ?_))
                by_cases h9 : x.op = 9
                · refine gnm ?_; rw [show (x.op == 9) = true by simp [h9]]
                  refine gor hL ?_; (repeat (clear hL; intro t hL; refine gor hL ?_))
                  refine gnm ?_; rw [show IntKind.i64.wrap ((j : Int) + 1) = ((j + 1 : Nat) : Int) by rw [IntWalk.i64_in _ (by omega)]; rfl]
                  refine po rfl (slc_bsl (j := j + 1) rfl rfl (by omega)) ?_
                  refine po_appBX (news := (p.take (j + 1)).map Ins.row) hL rfl rfl rfl (by repeat (first | exact Rem.head | apply Rem.tail)) (cellsP_take p rest (by omega)) (by rw [List.length_map, List.length_take]; omega) rows5 (by omega) (by omega) ?_
                  clear hL; intro b2 cap2 t hc2 hL
                  refine gor hL ?_; (repeat (clear hL; intro t hL; refine gor hL ?_))
                  refine gnm ?_; rw [show (x.op == 9) = true by simp [h9]]
                  refine gor hL ?_; (repeat (clear hL; intro t hL; refine gor hL ?_))
                  exact ⟨(j : Int), ⟨by rw [hsucc, if_pos ⟨by rw [← ha]; exact ha0, hc0, by simp [jumps, h9]⟩], hL.pk⟩, tr2⟩
                · refine gnm ?_; rw [show (x.op == 9) = false by simp [h9]]
                  refine gor hL ?_; (repeat (clear hL; intro t hL; refine gor hL ?_))
                  by_cases h8 : x.op = 8
                  · refine gnm ?_; rw [show (x.op == 8) = true by simp [h8]]
                    refine gor hL ?_; (repeat (clear hL; intro t hL; refine gor hL ?_))
                    refine gnm ?_; rw [show IntKind.i64.wrap ((j : Int) + 1) = ((j + 1 : Nat) : Int) by rw [IntWalk.i64_in _ (by omega)]; rfl]
                    refine po rfl (slc_bsl (j := j + 1) rfl rfl (by omega)) ?_
                    refine po_appBX (news := (p.take (j + 1)).map Ins.row) hL rfl rfl rfl (by repeat (first | exact Rem.head | apply Rem.tail)) (cellsP_take p rest (by omega)) (by rw [List.length_map, List.length_take]; omega) rows5 (by omega) (by omega) ?_
                    clear hL; intro b2 cap2 t hc2 hL
                    refine gor hL ?_; (repeat (clear hL; intro t hL; refine gor hL ?_))
                    refine gnm ?_; rw [show (x.op == 9) = false by simp [h9]]
                    refine gor hL ?_; (repeat (clear hL; intro t hL; refine gor hL ?_))
                    refine po_callK hL (cl_thaw (n := j + 1) (b := b2) (cap := cap2) (hck (p.take (j + 1)) (fun _ h => List.mem_of_mem_take h) (by rw [List.length_take]; omega)) rfl (cells_weak _ _) rows5 (by rw [List.length_map, List.length_take]; omega)) ?_
                    clear hL; intro _ t hL
                    refine gor hL ?_; (repeat (clear hL; intro t hL; refine gor hL ?_))
                    refine gnm ?_; rw [show (checkP (p.take (j + 1)) != 0) = true by simp [skip_last hx h8]]
                    refine gor hL ?_; (repeat (clear hL; intro t hL; refine gor hL ?_))
                    exact ⟨(j : Int), ⟨by rw [hsucc, if_pos ⟨by rw [← ha]; exact ha0, hc0, by simp [jumps, h8]⟩], hL.pk⟩, tr2⟩
                  · refine gnm ?_; rw [show (x.op == 8) = false by simp [h8]]
                    refine gor hL ?_; (repeat (clear hL; intro t hL; refine gor hL ?_))
                    exact ⟨a, ⟨by rw [hsucc, if_neg (fun h => by have := h.2.2; simp [jumps, h8, h9] at this), ha], hL⟩, tr2⟩
            · refine gnm ?_; rw [show decide (a < 0) = false from decide_eq_false ha0]
              refine gor hL ?_; (repeat (clear hL; intro t hL; refine gor hL ?_))
              exact ⟨a, ⟨by rw [hsucc, if_neg (fun h => ha0 (by rw [ha]; exact h.1)), ha], hL⟩, tr2⟩
        · have hk40 : ¬ k < 40 := by simp at h40; omega
          refine gor hL ?_; (repeat (clear hL; intro t hL; refine gor hL ?_))
          exact fin _ p t (by first | rfl | exact trimA) (by rw [← hfx, show 40 - k = 0 by omega]; rfl) hL
    · rintro s t ⟨v, hv, rfl, hL⟩
      have hck0 := C12 (prgM l) (fun x hx => (htm x hx).fit) (by omega)
      rw [hchk] at hck0
      have hpl3 : (prgM l).length < 2 ^ 40 := by omega
      rcases hv with rfl | rfl
      · -- data
        refine gor hL ?_; (repeat (clear hL; intro t hL; refine gor hL ?_))
        (apply prangeJ ((prgM l).length) (by omega) (fun _ t => Lay st [] t)); (· exact trimA); (· exact fun _ => rfl)
        · exact hL
        · intro t hL
          refine gor hL ?_; (repeat (clear hL; intro t hL; refine gor hL ?_))
          rw [← hQ]
          exact pfin_pure rfl hL.le
        · intro k hk t hL
          refine pblock ?_
          refine gor hL ?_; (repeat (clear hL; intro t hL; refine gor hL ?_))
          refine po_c0 hck0 ?_ (by rfl)
          refine gor hL ?_; (repeat (clear hL; intro t hL; refine gor hL ?_))
          exact ⟨hL, tr2⟩
      · have hpl4 : ((prgM l).map Ins.row).length < 2 ^ 40 := by rw [List.length_map]; exact hpl3
        refine gor hL ?_; (repeat (clear hL; intro t hL; refine gor hL ?_))
        (apply prangeJ (((prgM l).map Ins.row).length) (by omega) (fun _ t => Lay st [] t)); (· exact trimA); (· exact fun _ => rfl)
        · exact hL
        · intro t hL
          refine gor hL ?_; (repeat (clear hL; intro t hL; refine gor hL ?_))
          rw [← hQ]
          exact pfin_weak rfl rfl hL.le
        · intro k hk t hL
          refine pblock ?_
          refine gor hL ?_; (repeat (clear hL; intro t hL; refine gor hL ?_))
          refine po_c0 hck0 ?_ (by rfl)
          refine gor hL ?_; (repeat (clear hL; intro t hL; refine gor hL ?_))
          exact ⟨hL, tr2⟩
  · rintro k hk a t ⟨F, hF, hL⟩
    obtain ⟨y, hy, hym⟩ := elem_at hk
    have yf := hl y hym
    refine pblock ?_
    obtain ⟨y1, y2, y3, y4, y5, y6⟩ := y
    (refine gor hL ?_; (repeat (clear hL; intro t hL; refine gor hL ?_))); (with_reducible refine po_allocL hL rfl ?_); clear hL; intro p5 t hL
    refine gor hL ?_; (repeat (clear hL; intro t hL; refine gor hL ?_))
    refine pcond_b rfl (fun h16 => ?_) (fun h16 => ?_)
    · refine gor hL ?_; (repeat (clear hL; intro t hL; refine gor hL ?_))
      have t1 : y1.tmod 12 = y1 % 12 := Int.tmod_eq_emod_of_nonneg yf.op.1
      have t2 : y2.tmod 16 = y2 % 16 := Int.tmod_eq_emod_of_nonneg yf.dst.1
      have t3 : y3.tmod 16 = y3 % 16 := Int.tmod_eq_emod_of_nonneg yf.a.1
      have t4 : y4.tmod 16 = y4 % 16 := Int.tmod_eq_emod_of_nonneg yf.b.1
      refine gnm ?_; rw [t1, t2, t3, t4]
      have l7 : 0 ≤ low y5 7 ∧ low y5 7 ≤ 7 := low_le y5 (m := 7) (by decide)
      have l3 : 0 ≤ low y5 3 ∧ low y5 3 ≤ 3 := low_le y5 (m := 3) (by decide)
      have w7 : IntKind.i16.wrap ((BitVec.ofInt IntKind.i16.bits y5 &&& BitVec.ofInt IntKind.i16.bits 7).toNat : Int) = low y5 7 := low_wrap y5 (m := 7) (by decide)
      have w3 : IntKind.i16.wrap ((BitVec.ofInt IntKind.i16.bits y5 &&& BitVec.ofInt IntKind.i16.bits 3).toNat : Int) = low y5 3 := low_wrap y5 (m := 3) (by decide)
      have w31 : IntKind.i16.wrap ((BitVec.ofInt IntKind.i16.bits y5 &&& BitVec.ofInt IntKind.i16.bits 31).toNat : Int) = low y5 31 := low_wrap y5 (m := 31) (by decide)
      (refine gor hL ?_; (repeat (clear hL; intro t hL; refine gor hL ?_))); (with_reducible refine po_allocL hL rfl ?_); clear hL; intro p6 t hL
      refine gor hL ?_; (repeat (clear hL; intro t hL; refine gor hL ?_))
      replace hL : Lay st (.box p6 [.d (.int .u8 (y1 % 12)), .d (.int .u8 (y2 % 16)), .d (.int .u8 (y3 % 16)), .d (.int .u8 (y4 % 16)), .d (.int .i16 y5)] :: .box p5 [.d (.int .u8 y1), .d (.int .u8 y2), .d (.int .u8 y3), .d (.int .u8 y4), .d (.int .i16 y5), .d (.bool y6)] :: F) _ := hL
      refine pcond_b rfl (fun h9 => ?_) (fun h9 => ?_)
      · have h9' : y1 % 12 = 9 := by simpa using h9
        refine gor hL ?_; (repeat (clear hL; intro t hL; refine gor hL ?_))
        refine po_loadSt (H := [.box p5 [.d (.int .u8 y1), .d (.int .u8 y2), .d (.int .u8 y3), .d (.int .u8 y4), .d (.int .i16 y5), .d (.bool y6)]]) (Stb.start _ (fun _ => .undef) t) hL rfl rfl (by repeat (first | exact Rem.head | apply Rem.tail)) (by (repeat (first | (with_reducible exact Pick.nil) | ((with_reducible apply Pick.cons); · (repeat (first | exact Rem.head | apply Rem.tail)))))) rfl (fun hS => ?_)
        refine gor hL ?_; (repeat (clear hL; intro t hL; refine gor hL ?_))
        refine po_loadSt hS hL rfl rfl (by repeat (first | exact Rem.head | apply Rem.tail)) (by (repeat (first | (with_reducible exact Pick.nil) | ((with_reducible apply Pick.cons); · (repeat (first | exact Rem.head | apply Rem.tail)))))) rfl (fun hS => ?_)
        refine gor hL ?_; (repeat (clear hL; intro t hL; refine gor hL ?_))
        refine gnm ?_; rw [w7, IntWalk.i16_in (1 + low y5 7) (by omega), show IntKind.u8.wrap (1 + y4.tmod 4) = 1 + y4 % 4 by rw [Int.tmod_eq_emod_of_nonneg yf.b.1, IntWalk.u8_in _ (by omega)]]
        refine po_storeSt hS hL rfl rfl (by repeat (first | exact Rem.head | apply Rem.tail)) rfl ⟨rfl, rfl⟩ (of_decide_eq_true rfl) rfl (by (repeat (first | (with_reducible exact Pick.nil) | ((with_reducible apply Pick.cons); · (repeat (first | exact Rem.head | apply Rem.tail)))))) ?_
        clear hL hS; intro t hL hS
        refine gor hL ?_; (repeat (clear hL; intro t hL; refine gor hL ?_))
        refine po_storeSt hS hL rfl rfl (by repeat (first | exact Rem.head | apply Rem.tail)) rfl ⟨rfl, rfl⟩ (of_decide_eq_true rfl) rfl (by (repeat (first | (with_reducible exact Pick.nil) | ((with_reducible apply Pick.cons); · (repeat (first | exact Rem.head | apply Rem.tail)))))) ?_
        clear hL hS; intro t hL hS
        refine gor hL ?_; (repeat (clear hL; intro t hL; refine gor hL ?_))
        refine gnm ?_; rw [h9']
        have ht : tame ⟨y1, y2, y3, y4, y5, y6⟩ = ⟨9, y2 % 16, y3 % 16, 1 + y4 % 4, 1 + low y5 7⟩ := by unfold tame; simp only; rw [if_pos h9']
        rw [base_succ hy (by simp at h16; omega), ht]
        refine po_push (i := ⟨9, y2 % 16, y3 % 16, 1 + y4 % 4, 1 + low y5 7⟩) (X := [.box p6 _, .box p5 _]) hF hL rfl rfl rfl (by have := base_len (l.take k); omega) ?_
        clear hL
        intro a' F' t' m' hF' hL hm'
        subst hm'
        refine gor hL ?_; (repeat (clear hL; intro t hL; refine gor hL ?_))
        exact ⟨_, ⟨F', hF', hL⟩, tr2⟩
      · have h9' : ¬ y1 % 12 = 9 := by simpa using h9
        refine gor hL ?_; (repeat (clear hL; intro t hL; refine gor hL ?_))
        refine pcond_b rfl (fun h8 => ?_) (fun h8 => ?_)
        · have h8' : y1 % 12 = 8 := by simpa using h8
          refine gor hL ?_; (repeat (clear hL; intro t hL; refine gor hL ?_))
          refine gnm ?_; rw [w3, IntWalk.i16_in (1 + low y5 3) (by omega), h8']
          have ht : tame ⟨y1, y2, y3, y4, y5, y6⟩ = ⟨8, y2 % 16, y3 % 16, y4 % 16, 1 + low y5 3⟩ := by unfold tame; simp only; rw [if_neg h9', if_pos h8']
          rw [base_succ hy (by simp at h16; omega), ht]
          refine po_push (i := ⟨8, y2 % 16, y3 % 16, y4 % 16, 1 + low y5 3⟩) (X := [.box p6 _, .box p5 _]) hF hL rfl rfl rfl (by have := base_len (l.take k); omega) ?_
          clear hL
          intro a' F' t' m' hF' hL hm'
          subst hm'
          refine gor hL ?_; (repeat (clear hL; intro t hL; refine gor hL ?_))
          exact ⟨_, ⟨F', hF', hL⟩, tr2⟩
        · have h8' : ¬ y1 % 12 = 8 := by simpa using h8
          refine gor hL ?_; (repeat (clear hL; intro t hL; refine gor hL ?_))
          refine pcond_b rfl (fun h10 => ?_) (fun h10 => ?_)
          · have h10' : y1 % 12 = 10 := by simpa using h10
            refine gor hL ?_; (repeat (clear hL; intro t hL; refine gor hL ?_))
            refine gnm ?_; rw [w31, h10']
            have ht : tame ⟨y1, y2, y3, y4, y5, y6⟩ = ⟨10, y2 % 16, y3 % 16, y4 % 16, low y5 31⟩ := by unfold tame; simp only; rw [if_neg h9', if_neg h8', if_pos h10']
            rw [base_succ hy (by simp at h16; omega), ht]
            refine po_push (i := ⟨10, y2 % 16, y3 % 16, y4 % 16, low y5 31⟩) (X := [.box p6 _, .box p5 _]) hF hL rfl rfl rfl (by have := base_len (l.take k); omega) ?_
            clear hL
            intro a' F' t' m' hF' hL hm'
            subst hm'
            refine gor hL ?_; (repeat (clear hL; intro t hL; refine gor hL ?_))
            exact ⟨_, ⟨F', hF', hL⟩, tr2⟩
          · have h10' : ¬ y1 % 12 = 10 := by simpa using h10
            refine gor hL ?_; (repeat (clear hL; intro t hL; refine gor hL ?_))
            have ht : tame ⟨y1, y2, y3, y4, y5, y6⟩ = ⟨y1 % 12, y2 % 16, y3 % 16, y4 % 16, y5⟩ := by unfold tame; simp only; rw [if_neg h9', if_neg h8', if_neg h10']
            rw [base_succ hy (by simp at h16; omega), ht]
            refine po_push (i := ⟨y1 % 12, y2 % 16, y3 % 16, y4 % 16, y5⟩) (X := [.box p6 _, .box p5 _]) hF hL rfl rfl rfl (by have := base_len (l.take k); omega) ?_
            clear hL
            intro a' F' t' m' hF' hL hm'
            subst hm'
            refine gor hL ?_; (repeat (clear hL; intro t hL; refine gor hL ?_))
            exact ⟨_, ⟨F', hF', hL⟩, tr2⟩
    · refine gor hL ?_; (repeat (clear hL; intro t hL; refine gor hL ?_))
      exact ⟨_, ⟨F, by rw [base_full (by simp at h16; omega)]; exact hF, hL.tail⟩, tr2⟩
end Go.Pv
namespace Go.Pv
open Go.Proofs
set_option maxRecDepth 100000
set_option maxHeartbeats 8000000

/-- A body, a state, arguments, by small numbers. -/
structure Sm11 where
  tk : Nd
  an : Nd
  p : List Sm10
  S : List Int
  l : List Int
structure Sm11.fit (x : Sm11) : Prop where
  tk : x.tk.fit
  an : x.an.fit
  p : (∀ y ∈ x.p, y.fit) ∧ x.p.length < 2 ^ 63
  S : x.S.length = 8 ∧ Rok x.S
  l : Rok x.l ∧ x.l.length < 2 ^ 63
abbrev Sm11.cs (x : Sm11) : List AV := [.d (.int .u8 x.tk.kind), .d (.int .u8 x.tk.n), .d (.sl (x.tk.of.map Nd.row)), .d (.int .u8 x.an.kind), .d (.int .u8 x.an.n), .d (.sl (x.an.of.map Nd.row)), .d (.sl (x.p.map Sm10.row)),
  .d (.int .i64 (x.S.getD 0 0)), .d (.int .i64 (x.S.getD 1 0)), .d (.int .i64 (x.S.getD 2 0)), .d (.int .i64 (x.S.getD 3 0)), .d (.int .i64 (x.S.getD 4 0)), .d (.int .i64 (x.S.getD 5 0)), .d (.int .i64 (x.S.getD 6 0)), .d (.int .i64 (x.S.getD 7 0)), .d (i64s x.l)]
def Sm11.light (x : Sm11) : Bool := x.tk.light 4 && x.an.light 4 && decide ((x.p.length : Int) ≤ 30) && decide ((x.l.length : Int) ≤ 40)

theorem C14 (x : Sm11) (hx : x.fit) : Pure (PCalls Try.prog GG) 14 [.agg x.cs] (b2 x.light) := by
  have h1 := C34 x.tk 4 hx.tk (by decide)
  have h2 := C34 x.an 4 hx.an (by decide)
  intro st; refine pcalls_of k14 e14 (of_decide_eq_true rfl) ?_; dsimp only [c14]; refine pstartL ?_; intro t hL; generalize hQ : pfin _ _ = Q
  (refine gor hL ?_; (repeat (clear hL; intro t hL; refine gor hL ?_))); refine po_boxA hL ?_; clear hL; intro p1 t hL
  refine gor hL ?_; (repeat (clear hL; intro t hL; refine gor hL ?_))
  refine po_c0 (h1) ?_
  refine gor hL ?_; (repeat (clear hL; intro t hL; refine gor hL ?_))
  cases q1 : x.tk.light 4 with
  | false =>
    refine gor hL ?_; (repeat (clear hL; intro t hL; refine gor hL ?_))
    rw [← hQ]
    rw [show x.light = false by simp [Sm11.light, q1]]
    exact pfin_pure rfl hL.le
  | true =>
    refine gor hL ?_; (repeat (clear hL; intro t hL; refine gor hL ?_))
    refine po_c0 (h2) ?_
    refine gor hL ?_; (repeat (clear hL; intro t hL; refine gor hL ?_))
    cases q2 : x.an.light 4 with
    | false =>
      refine gor hL ?_; (repeat (clear hL; intro t hL; refine gor hL ?_))
      rw [← hQ]
      rw [show x.light = false by simp [Sm11.light, q2]]
      exact pfin_pure rfl hL.le
    | true =>
      refine gor hL ?_; (repeat (clear hL; intro t hL; refine gor hL ?_))
      rw [← hQ]
      rw [show x.light = (decide ((x.p.length : Int) ≤ 30) && decide ((x.l.length : Int) ≤ 40)) by simp [Sm11.light, q1, q2]]
      exact pfin_pure (by first | rfl | (simp [pret, PRes.ev, i64s]; done)) hL.le
/-- Its body. -/
abbrev bodyAV (tk an : KT) (p : List Ins) : AV := .agg [.d (.int .u8 tk.kind), .d (.int .i64 tk.most), .d (.sl (tk.names.map fun s => [.str s])), .d (.sl (tk.of.map KT.row)), .d (.int .u8 an.kind), .d (.int .i64 an.most), .d (.sl (an.names.map fun s => [.str s])), .d (.sl (an.of.map KT.row)), .d (.sl (p.map Ins.row))]
abbrev Sm11.T (x : Sm11) : KT := Nd.typ 4 x.tk []
abbrev Sm11.A (x : Sm11) : KT := Nd.typ 4 x.an []
abbrev Sm11.v (x : Sm11) : VT := buildV x.l x.T
theorem Sm11.small {x : Sm11} (h : x.light = true) : x.l.length ≤ 40 := by
  simp [Sm11.light] at h; omega
theorem C15 (x : Sm11) (hx : x.fit) (hl : x.light = true) : Pure (PCalls Try.prog GG) 15 [.agg x.cs] (.tup [bodyAV x.T x.A (prgM x.p), x.v.av]) := by
  have h1 := C35 x.tk hx.tk
  have h2 := C35 x.an hx.an
  have h3 := C11 x.p hx.p.1 hx.p.2
  obtain ⟨t1, t2, t3⟩ := typ_le hx.tk
  have hsm := Sm11.small hl
  have h4 := C18 x.l (by omega) hx.l.1 x.T t1 t2 t3
  rw [KT.av_eq] at h1 h2 h4
  rw [VT.av_eq] at *
  intro st; refine pcalls_of k15 e15 (of_decide_eq_true rfl) ?_; dsimp only [c15]; refine pstartL ?_; intro t hL; generalize hQ : pfin _ _ = Q
  (refine gor hL ?_; (repeat (clear hL; intro t hL; refine gor hL ?_))); refine po_boxA hL ?_; clear hL; intro p1 t hL
  (refine gor hL ?_; (repeat (clear hL; intro t hL; refine gor hL ?_))); (with_reducible refine po_allocL hL rfl ?_); clear hL; intro p2 t hL
  (refine gor hL ?_; (repeat (clear hL; intro t hL; refine gor hL ?_))); (with_reducible refine po_allocL hL rfl ?_); clear hL; intro p3 t hL
  refine gor hL ?_; (repeat (clear hL; intro t hL; refine gor hL ?_))
  refine po_cp (h1) ?_
  refine gor hL ?_; (repeat (clear hL; intro t hL; refine gor hL ?_))
  refine po_cp (h2) ?_
  refine gor hL ?_; (repeat (clear hL; intro t hL; refine gor hL ?_))
  refine po_cp (h3) ?_
  refine gor hL ?_; (repeat (clear hL; intro t hL; refine gor hL ?_))
  (refine gor hL ?_; (repeat (clear hL; intro t hL; refine gor hL ?_))); (with_reducible refine po_allocL hL rfl ?_); clear hL; intro p4 t hL
  refine gor hL ?_; (repeat (clear hL; intro t hL; refine gor hL ?_))
  refine po_cp (h4) ?_
  refine gor hL ?_; (repeat (clear hL; intro t hL; refine gor hL ?_))
  rw [← hQ]
  exact pfin_pure (pret_two (pres_cellL hL rfl (by repeat (first | exact Rem.head | apply Rem.tail)) rfl) (pres_cellL hL rfl (by repeat (first | exact Rem.head | apply Rem.tail)) rfl)) hL.le
end Go.Pv
