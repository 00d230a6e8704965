/- Functions of the program, by value. No condition. -/
import Derived.Test.YtdggkhnelmonkaaDoorL1
import Derived.Test.YtdggkhnelmonkaaDoorD6
namespace Go.Pv
open Go.Proofs
set_option maxRecDepth 100000
set_option maxHeartbeats 4000000

/-- (prompter/prompterlaw05.Node).Type$1 -/
abbrev c58_2 : PCode :=
 (.seq (.region [⟨(.some 10), (.mov (.t 0)), .none⟩,
   ⟨(.some 11), (.bin .rem (.t 10) (.c (.d (.int .i64 4)))), .none⟩,
   ⟨(.some 12), (.cvt .u8 (.t 11)), .none⟩,
   ⟨(.some 13), (.bld [(.d (.int .u8 0)), (.d (.int .i64 0)), (.full []), (.full [])] [(0, (1, (.t 12)))]), .none⟩,
   ⟨.none, (.store 4 (.t 5) (.t 13)), .none⟩])
 .ret)
abbrev c58_1 : PCode :=
 (.cond (.t 9)
  c58_2
  .skip)
abbrev c58_3 : PCode :=
 (.keep [0, 1, 2, 3, 5] (.seq (.region [⟨(.some 14), (.faddr 2 (.t 1)), .none⟩,
   ⟨(.some 15), (.load .false 1 (.t 14) .false), .none⟩,
   ⟨(.some 16), (.mov (.t 0)), .none⟩,
   ⟨(.some 17), (.faddr 2 (.t 1)), .none⟩,
   ⟨(.some 18), (.load .false 1 (.t 17) .false), .none⟩,
   ⟨(.some 19), (.len (.t 18)), .none⟩,
   ⟨(.some 20), (.bin .rem (.t 16) (.t 19)), .none⟩,
   ⟨(.some 21), (.iaddr 3 (.t 15) (.t 20)), .none⟩,
   ⟨(.some 22), (.load .true 3 (.t 21) .false), .none⟩,
   ⟨(.some 23), (.load .false 1 (.t 2) .false), .none⟩,
   ⟨(.some 24), (.bin .sub (.t 23) (.c (.d (.int .i64 1)))), .none⟩,
   ⟨(.some 25), (.load .false 1 (.t 3) .false), .none⟩,
   ⟨(.some 26), (.call0 29 [(.t 22), (.t 24), (.t 25)]), .none⟩,
   ⟨.none, (.store 4 (.t 5) (.t 26)), .none⟩])
 .ret))
abbrev c58_0 : PCode :=
 (.seq (.seq (.region [⟨(.some 6), (.faddr 2 (.t 1)), .none⟩,
   ⟨(.some 7), (.load .false 1 (.t 6) .false), .none⟩,
   ⟨(.some 8), (.len (.t 7)), .none⟩,
   ⟨(.some 9), (.bin .eql (.t 8) (.c (.d (.int .i64 0)))), .none⟩])
 c58_1)
 c58_3)
def c58 : PFun := ⟨
 (.seq (.region [⟨(.some 5), (.alloc [(.d (.int .u8 0)), (.d (.int .i64 0)), (.full []), (.full [])]), .none⟩])
 c58_0),
 4, 27, [(.cell 5 .true 4)]⟩

/-- (prompter/prompterlaw05.Node).Type -/
abbrev c29_3 : PCode :=
 (.region [⟨(.some 7), (.mov (.c (.d (.int .u8 1)))), .none⟩])
abbrev c29_2 : PCode :=
 (.cond (.t 36)
  c29_3
  .skip)
abbrev c29_9 : PCode :=
 (.region [⟨(.some 43), (.faddr 1 (.t 3)), .none⟩,
   ⟨(.some 44), (.load .false 1 (.t 43) .false), .none⟩,
   ⟨(.some 45), (.bin .rem (.t 44) (.c (.d (.int .u8 60)))), .none⟩,
   ⟨(.some 46), (.cvt .i64 (.t 45)), .none⟩,
   ⟨(.some 47), (.bin .add (.c (.d (.int .i64 1))) (.t 46)), .none⟩,
   ⟨(.some 48), (.faddr 1 (.t 9)), .none⟩,
   ⟨.none, (.store 1 (.t 48) (.t 47)), .none⟩])
abbrev c29_12 : PCode :=
 (.region [⟨(.some 51), (.faddr 1 (.t 3)), .none⟩,
   ⟨(.some 52), (.load .false 1 (.t 51) .false), .none⟩,
   ⟨(.some 53), (.bin .rem (.t 52) (.c (.d (.int .u8 60)))), .none⟩,
   ⟨(.some 54), (.cvt .i64 (.t 53)), .none⟩,
   ⟨(.some 55), (.bin .add (.c (.d (.int .i64 1))) (.t 54)), .none⟩,
   ⟨(.some 56), (.mov (.t 8)), .none⟩,
   ⟨(.some 57), (.callvp (.t 56) [(.c (.d (.int .i64 0)))]), .none⟩,
   ⟨(.some 58), (.bsl 4 [(.t 57)]), .none⟩,
   ⟨(.some 59), (.faddr 1 (.t 9)), .none⟩,
   ⟨.none, (.store 1 (.t 59) (.t 55)), .none⟩,
   ⟨(.some 60), (.faddr 3 (.t 9)), .none⟩,
   ⟨.none, (.store 1 (.t 60) (.t 58)), .none⟩])
abbrev c29_17 : PCode :=
 (.region [⟨(.some 64), (.bin .eql (.t 40) (.c (.d (.int .u8 7)))), .none⟩,
   ⟨(.some 61), (.mov (.t 64)), .none⟩])
abbrev c29_16 : PCode :=
 (.cond (.t 61)
  .skip
  c29_17)
abbrev c29_15 : PCode :=
 (.seq (.region [⟨(.some 63), (.bin .eql (.t 40) (.c (.d (.int .u8 8)))), .none⟩,
   ⟨(.some 61), (.mov (.t 63)), .none⟩])
 c29_16)
abbrev c29_14 : PCode :=
 (.cond (.t 61)
  .skip
  c29_15)
abbrev c29_25 : PCode :=
 (.region [⟨(.some 84), (.faddr 3 (.t 9)), .none⟩,
   ⟨(.some 85), (.load .false 1 (.t 84) .false), .none⟩,
   ⟨(.some 86), (.mov (.t 8)), .none⟩,
   ⟨(.some 87), (.mov (.t 10)), .none⟩,
   ⟨(.some 88), (.callvp (.t 86) [(.t 87)]), .none⟩,
   ⟨(.some 89), (.bsl 4 [(.t 88)]), .none⟩,
   ⟨(.some 90), (.app 4 64 (.t 85) (.t 89)), .none⟩,
   ⟨(.some 91), (.faddr 3 (.t 9)), .none⟩,
   ⟨.none, (.store 1 (.t 91) (.t 90)), .none⟩])
abbrev c29_24 : PCode :=
 (.cond (.t 83)
  c29_25
  .skip)
abbrev c29_23 : PCode :=
 (.keep [3, 6, 7, 8, 9, 10, 69, 70] (.seq (.region [⟨(.some 82), (.mov (.t 7)), .none⟩,
   ⟨(.some 83), (.bin .neq (.t 82) (.c (.d (.int .u8 7)))), .none⟩])
 c29_24))
abbrev c29_22 : PCode :=
 (.seq (.region [⟨(.some 73), (.faddr 2 (.t 9)), .none⟩,
   ⟨(.some 74), (.load .false 1 (.t 73) .false), .none⟩,
   ⟨(.some 75), (.mov (.t 10)), .none⟩,
   ⟨(.some 76), (.faddr 1 (.t 3)), .none⟩,
   ⟨(.some 77), (.load .false 1 (.t 76) .false), .none⟩,
   ⟨(.some 78), (.callp 31 [(.t 75), (.t 77)]), .none⟩,
   ⟨(.some 79), (.bsl 1 [(.t 78)]), .none⟩,
   ⟨(.some 80), (.app 1 16 (.t 74) (.t 79)), .none⟩,
   ⟨(.some 81), (.faddr 2 (.t 9)), .none⟩,
   ⟨.none, (.store 1 (.t 81) (.t 80)), .none⟩])
 c29_23)
abbrev c29_21 : PCode :=
 (.block 2 (.seq (.region [⟨(.some 72), (.mov (.t 70)), .none⟩,
   ⟨(.some 10), (.mov (.t 72)), .none⟩])
 c29_22))
abbrev c29_20 : PCode :=
 (.keep [3, 6, 7, 8, 9, 69, 70] (.block 1 (.loop (.some [70, 3, 6, 7, 8, 9, 69]) (.seq (.region [⟨(.some 71), (.bin .lss (.t 70) (.t 69)), .none⟩])
 (.seq (.cond (.t 71)
  .skip
  (.exit 1))
 (.seq c29_21
 (.region [⟨(.some 92), (.bin .add (.t 70) (.c (.d (.int .i64 1)))), .none⟩,
   ⟨(.some 70), (.mov (.t 92)), .none⟩])))))))
abbrev c29_19 : PCode :=
 (.seq (.region [⟨(.some 65), (.faddr 1 (.t 3)), .none⟩,
   ⟨(.some 66), (.load .false 1 (.t 65) .false), .none⟩,
   ⟨(.some 67), (.bin .rem (.t 66) (.c (.d (.int .u8 3)))), .none⟩,
   ⟨(.some 68), (.cvt .i64 (.t 67)), .none⟩,
   ⟨(.some 69), (.bin .add (.c (.d (.int .i64 1))) (.t 68)), .none⟩,
   ⟨(.some 70), (.mov (.c (.d (.int .i64 0)))), .none⟩])
 c29_20)
abbrev c29_28 : PCode :=
 (.region [⟨(.some 95), (.load .false 1 (.t 5) .false), .none⟩,
   ⟨(.some 96), (.faddr 1 (.t 3)), .none⟩,
   ⟨(.some 97), (.load .false 1 (.t 96) .false), .none⟩,
   ⟨(.some 98), (.cvt .i64 (.t 97)), .none⟩,
   ⟨(.some 99), (.load .false 1 (.t 5) .false), .none⟩,
   ⟨(.some 100), (.len (.t 99)), .none⟩,
   ⟨(.some 101), (.bin .rem (.t 98) (.t 100)), .none⟩,
   ⟨(.some 102), (.iaddr 1 (.t 95) (.t 101)), .none⟩,
   ⟨(.some 103), (.load .false 1 (.t 102) .false), .none⟩,
   ⟨(.some 104), (.bsl 1 [(.t 103)]), .none⟩,
   ⟨(.some 105), (.faddr 2 (.t 9)), .none⟩,
   ⟨.none, (.store 1 (.t 105) (.t 104)), .none⟩])
abbrev c29_27 : PCode :=
 (.cond (.t 93)
  c29_28
  .skip)
abbrev c29_26 : PCode :=
 (.seq (.region [⟨(.some 94), (.bin .eql (.t 40) (.c (.d (.int .u8 9)))), .none⟩,
   ⟨(.some 93), (.mov (.t 94)), .none⟩])
 c29_27)
abbrev c29_18 : PCode :=
 (.keep [3, 5, 6, 7, 8, 9, 40, 61] (.cond (.t 61)
  c29_19
  c29_26))
abbrev c29_13 : PCode :=
 (.seq (.seq (.region [⟨(.some 62), (.bin .eql (.t 40) (.c (.d (.int .u8 6)))), .none⟩,
   ⟨(.some 61), (.mov (.t 62)), .none⟩])
 c29_14)
 c29_18)
abbrev c29_11 : PCode :=
 (.cond (.t 49)
  c29_12
  c29_13)
abbrev c29_10 : PCode :=
 (.seq (.region [⟨(.some 50), (.bin .eql (.t 40) (.c (.d (.int .u8 5)))), .none⟩,
   ⟨(.some 49), (.mov (.t 50)), .none⟩])
 c29_11)
abbrev c29_8 : PCode :=
 (.cond (.t 41)
  c29_9
  c29_10)
abbrev c29_7 : PCode :=
 (.block 0 (.seq (.region [⟨(.some 42), (.bin .eql (.t 40) (.c (.d (.int .u8 4)))), .none⟩,
   ⟨(.some 41), (.mov (.t 42)), .none⟩])
 c29_8))
abbrev c29_29 : PCode :=
 (.keep [6, 9] (.seq (.region [⟨(.some 106), (.load .true 4 (.t 9) .false), .none⟩,
   ⟨.none, (.store 4 (.t 6) (.t 106)), .none⟩])
 .ret))
abbrev c29_6 : PCode :=
 (.keep [3, 5, 6, 7, 8, 9] (.seq (.seq (.region [⟨(.some 40), (.mov (.t 7)), .none⟩])
 c29_7)
 c29_29))
abbrev c29_5 : PCode :=
 (.seq (.region [⟨(.some 38), (.mov (.t 7)), .none⟩,
   ⟨(.some 39), (.bld [(.d (.int .u8 0)), (.d (.int .i64 0)), (.full []), (.full [])] [(0, (1, (.t 38)))]), .none⟩,
   ⟨(.some 9), (.alloc [(.d (.int .u8 0)), (.d (.int .i64 0)), (.full []), (.full [])]), .none⟩,
   ⟨.none, (.store 4 (.t 9) (.t 39)), .none⟩])
 c29_6)
abbrev c29_4 : PCode :=
 (.keep [3, 4, 5, 6, 7] (.seq (.region [⟨(.some 37), (.mkfn 58 [] [(.t 3), (.t 4), (.t 5)]), .none⟩,
   ⟨(.some 8), (.mov (.t 37)), .none⟩])
 c29_5))
abbrev c29_1 : PCode :=
 (.keep [3, 4, 5, 6, 7] (.seq (.seq (.region [⟨(.some 14), (.mov (.t 7)), .none⟩,
   ⟨(.some 15), (.bin .eql (.t 14) (.c (.d (.int .u8 9)))), .none⟩,
   ⟨(.some 16), (.mov (.t 15)), .none⟩,
   ⟨(.some 17), (.load .false 1 (.t 5) .false), (.some (16, .true))⟩,
   ⟨(.some 18), (.len (.t 17)), (.some (16, .true))⟩,
   ⟨(.some 19), (.bin .eql (.t 18) (.c (.d (.int .i64 0)))), (.some (16, .true))⟩,
   ⟨(.some 20), (.pick (.t 16) (.t 19) (.c (.d (.bool .false)))), .none⟩,
   ⟨(.some 21), (.mov (.t 20)), .none⟩,
   ⟨(.some 22), (.load .false 1 (.t 4) .false), (.some (21, .false))⟩,
   ⟨(.some 23), (.bin .leq (.t 22) (.c (.d (.int .i64 1)))), (.some (21, .false))⟩,
   ⟨(.some 24), (.mov (.t 23)), (.some (21, .false))⟩,
   ⟨(.some 25), (.mov (.t 7)), (.some (24, .true))⟩,
   ⟨(.some 26), (.bin .eql (.t 25) (.c (.d (.int .u8 5)))), (.some (24, .true))⟩,
   ⟨(.some 27), (.mov (.t 26)), (.some (24, .true))⟩,
   ⟨(.some 28), (.mov (.t 7)), (.some (27, .false))⟩,
   ⟨(.some 29), (.bin .eql (.t 28) (.c (.d (.int .u8 6)))), (.some (27, .false))⟩,
   ⟨(.some 30), (.pick (.t 27) (.c (.d (.bool .true))) (.t 29)), (.some (24, .true))⟩,
   ⟨(.some 31), (.mov (.t 30)), (.some (24, .true))⟩,
   ⟨(.some 32), (.mov (.t 7)), (.some (31, .false))⟩,
   ⟨(.some 33), (.bin .eql (.t 32) (.c (.d (.int .u8 8)))), (.some (31, .false))⟩,
   ⟨(.some 34), (.pick (.t 31) (.c (.d (.bool .true))) (.t 33)), (.some (24, .true))⟩,
   ⟨(.some 35), (.pick (.t 24) (.t 34) (.c (.d (.bool .false)))), (.some (21, .false))⟩,
   ⟨(.some 36), (.pick (.t 21) (.c (.d (.bool .true))) (.t 35)), .none⟩])
 c29_2)
 c29_4))
abbrev c29_0 : PCode :=
 (.keep [3, 4, 5, 6] (.seq (.region [⟨(.some 11), (.faddr 0 (.t 3)), .none⟩,
   ⟨(.some 12), (.load .false 1 (.t 11) .false), .none⟩,
   ⟨(.some 13), (.bin .rem (.t 12) (.c (.d (.int .u8 10)))), .none⟩,
   ⟨(.some 7), (.mov (.t 13)), .none⟩])
 c29_1))
def c29 : PFun := ⟨
 (.seq (.region [⟨(.some 3), (.box 3 (.t 0)), .none⟩,
   ⟨(.some 4), (.box 1 (.t 1)), .none⟩,
   ⟨(.some 5), (.box 1 (.t 2)), .none⟩,
   ⟨(.some 6), (.alloc [(.d (.int .u8 0)), (.d (.int .i64 0)), (.full []), (.full [])]), .none⟩])
 c29_0),
 3, 107, [(.cell 6 .true 4)]⟩

theorem e58 : entered Tryd.prog 58 = true := by kernel_rfl
theorem k58 : compFun Tryd.prog (fun _ => 0) 58 = some c58.er := by kernel_rfl
theorem e29 : entered Tryd.prog 29 = true := by kernel_rfl
theorem k29 : compFun Tryd.prog (fun _ => 1) 29 = some c29.er := by kernel_rfl


theorem C31 (i : Nat) (n : Int) (hi : i < 2 ^ 60) (hn : 0 ≤ n ∧ n ≤ 255) : Pure (PCalls Tryd.prog GK) 31 [i64 i, .d (.int .u8 n)] (.d (.str (nameOf i n))) := by
  intro st; refine pcalls_of k31 e31 (of_decide_eq_true rfl) ?_; dsimp only [c31]; refine pstartL ?_; intro t hL; generalize hQ : pfin _ _ = Q
  refine gor hL ?_; (repeat (clear hL; intro t hL; refine gor hL ?_))
  rw [← hQ]
  refine pfin_pure (congrArg (fun z => some (AV.d (Dat.str z))) ?_) hL.le
  have e1 := IntWalk.rem_in (i : Int) 26 (by omega)
  have e2 := IntWalk.rem_in n 26 (by omega)
  have e3 : (i : Int).tdiv 26 = ((i / 26 : Nat) : Int) := by rw [Int.tdiv_eq_ediv_of_nonneg (by omega)]; omega
  have e4 := IntWalk.rem_in ((i / 26 : Nat) : Int) 10 (by omega)
  simp only [nameOf, bs, List.map_cons, List.map_nil]
  rw [e1, e2, e3, IntWalk.i64_in ((i / 26 : Nat) : Int) (by omega), e4, IntWalk.i64_in _ (by omega), IntWalk.i64_in _ (by omega), IntWalk.u8_in _ (by omega), IntWalk.u8_in _ (by omega), IntWalk.u8_in _ (by omega)]
  have f1 : (97 + (i : Int) % 26).toNat = 97 + i % 26 := by omega
  have f2 : (48 + ((i / 26 : Nat) : Int) % 10).toNat = 48 + i / 26 % 10 := by omega
  rw [f1, f2]

theorem nodeSub (d : Nat) (x : Nd) (known : List ByteArray) (hd : d + 1 ≤ 1000) (hx : x.fit) (IH : ∀ y : Nd, y.fit → Pure (PCalls Tryd.prog GK) 29 [y.av, i64 d, .d (strs known)] (Nd.typ d y known).av)
    (i : Nat) (hi : i < 2 ^ 60) {st : St} {p3 p4 p5 : Nat} (h3 : st.box p3 = some [.d (.int .u8 x.kind), .d (.int .u8 x.n), .d (.sl (x.of.map Nd.row))]) (h4 : st.box p4 = some [i64 (d + 1 : Nat)]) (h5 : st.box p5 = some [.d (strs known)]) :
    PureAt (PCalls Tryd.prog GK) st 58 [i64 i, ptrAt p3, ptrAt p4, ptrAt p5] (Nd.subW (fun y => Nd.typ d y known) x i).av := by
  rw [Nd.fit_eq] at hx
  obtain ⟨hk, hn, ho, hf⟩ := hx
  refine pcalls_of k58 e58 (of_decide_eq_true rfl) ?_; dsimp only [c58]
  refine pstartL ?_; intro t hL; generalize hQ : pfin _ _ = Q
  (refine gor hL ?_; (repeat (clear hL; intro t hL; refine gor hL ?_))); (with_reducible refine po_allocL hL rfl ?_); clear hL; intro p6 t hL
  refine gor hL ?_; (repeat (clear hL; intro t hL; refine gor hL ?_))
  refine pcond_b rfl (fun h1 => ?_) (fun h1 => ?_)
  · have h1' : x.of = [] := List.eq_nil_of_length_eq_zero (by simpa using h1)
    refine gor hL ?_; (repeat (clear hL; intro t hL; refine gor hL ?_))
    rw [← hQ]
    refine pwk1 hL ?_
    rw [KT.av_eq, Nd.subW, h1']
    simp [AV.weak, AV.weak1, KT.kind, KT.most, KT.names, KT.of]
    rw [IntWalk.rem_in _ _ (by omega), IntWalk.u8_in _ (by omega)]
  · have h1' : x.of.length ≠ 0 := by simpa using h1
    have hj : i % x.of.length < x.of.length := Nat.mod_lt _ (by omega)
    obtain ⟨y, hy, hm⟩ := elem_at hj
    refine gor hL ?_; (repeat (clear hL; intro t hL; refine gor hL ?_))
    refine po_remN rfl rfl h1' ?_
    refine gor hL ?_; (repeat (clear hL; intro t hL; refine gor hL ?_))
    refine gnm ?_; rw [IntWalk.i64_in (((d + 1 : Nat) : Int) - 1) (by omega), show ((d + 1 : Nat) : Int) - 1 = d by omega]
    refine po_call rfl (IH y (hf y hm)) (fun _ _ h => False.elim h) ?_
    rw [KT.av_eq]
    refine gor hL ?_; (repeat (clear hL; intro t hL; refine gor hL ?_))
    rw [← hQ]
    refine pwk1 hL ?_
    rw [Nd.subW, hy, KT.av_eq]
    rfl

theorem nodeType (D : Nat) (x : Nd) (known : List ByteArray) (sub : Nat → KT) (hD : D ≤ 1000) (hx : x.fit) (hkn : known.length < 2 ^ 48)
    (hsub : (x.kd D known = 5 ∨ x.kd D known = 6 ∨ x.kd D known = 8) → ∀ (i : Nat) (t : St) (p3 p4 p5 : Nat), i < 2 ^ 60 → t.box p3 = some [.d (.int .u8 x.kind), .d (.int .u8 x.n), .d (.sl (x.of.map Nd.row))] → t.box p4 = some [i64 D] → t.box p5 = some [.d (strs known)] →
      PureAt (PCalls Tryd.prog GK) t 58 [i64 i, ptrAt p3, ptrAt p4, ptrAt p5] (sub i).av) :
    Pure (PCalls Tryd.prog GK) 29 [x.av, i64 D, .d (strs known)] (x.typW (x.kd D known) known sub).av := by
  have hxf := hx
  rw [Nd.fit_eq] at hx
  obtain ⟨hk, hn, ho, hf⟩ := hx
  have hkd := Nd.kd_ge (t := x) (deep := D) (known := known)
  have hknown := Nd.kd_known (t := x) (deep := D) (known := known)
  intro st; refine pcalls_of k29 e29 (of_decide_eq_true rfl) ?_; dsimp only [c29]; refine pstartL ?_; intro t hL; generalize hQ : pfin _ _ = Q
  (refine gor hL ?_; (repeat (clear hL; intro t hL; refine gor hL ?_))); refine po_boxA hL ?_; clear hL; intro p3 t hL
  (refine gor hL ?_; (repeat (clear hL; intro t hL; refine gor hL ?_))); refine po_boxA hL ?_; clear hL; intro p4 t hL
  (refine gor hL ?_; (repeat (clear hL; intro t hL; refine gor hL ?_))); refine po_boxA hL ?_; clear hL; intro p5 t hL
  (refine gor hL ?_; (repeat (clear hL; intro t hL; refine gor hL ?_))); (with_reducible refine po_allocL hL rfl ?_); clear hL; intro p6 t hL
  refine gor hL ?_; (repeat (clear hL; intro t hL; refine gor hL ?_))
  refine pselK ?_
  refine gor hL ?_; (repeat (clear hL; intro t hL; refine gor hL ?_))
  refine ⟨_, rfl, ?_⟩
  have hval : (if (x.kind.tmod 10 == 9 && (known.length : Int) == 0 || decide ((D : Int) ≤ 1) && (x.kind.tmod 10 == 5 || x.kind.tmod 10 == 6 || x.kind.tmod 10 == 8)) = true then (AV.d (.int .u8 1)) else AV.d (.int .u8 (x.kind.tmod 10))) = AV.d (.int .u8 (x.kd D known)) := by
    rw [IntWalk.rem_in _ _ (by omega), Nd.kd]
    by_cases h : (x.kind % 10 = 9 ∧ known.length = 0) ∨ (D ≤ 1 ∧ (x.kind % 10 = 5 ∨ x.kind % 10 = 6 ∨ x.kind % 10 = 8))
    · rw [if_pos h, if_pos]
      simp only [Bool.or_eq_true, Bool.and_eq_true, beq_iff_eq, decide_eq_true_eq]
      omega
    · rw [if_neg h, if_neg]
      simp only [Bool.or_eq_true, Bool.and_eq_true, beq_iff_eq, decide_eq_true_eq]
      omega
  refine gnm ?_; rw [hval]
  clear hval
  generalize x.kd D known = kk at *
  (refine gor hL ?_; (repeat (clear hL; intro t hL; refine gor hL ?_))); (with_reducible refine po_allocL hL rfl ?_); clear hL; intro p9 t hL
  refine gor hL ?_; (repeat (clear hL; intro t hL; refine gor hL ?_))
  refine pseqk ?_
  refine gor hL ?_; (repeat (clear hL; intro t hL; refine gor hL ?_))
  refine pcond_b rfl (fun h4 => ?_) (fun h4 => ?_)
  · have h4' : kk = 4 := by simpa using h4
    subst h4'
    refine gor hL ?_; (repeat (clear hL; intro t hL; refine gor hL ?_))
    rw [← hQ]
    refine pwk1 hL ?_
    rw [KT.av_eq, Nd.typW, if_pos rfl]
    simp [AV.weak, AV.weak1, KT.kind, KT.most, KT.names, KT.of]
    rw [IntWalk.rem_in _ _ (by omega), IntWalk.i64_in (x.n % 60) (by omega), IntWalk.i64_in _ (by omega)]
  have h4' : kk ≠ 4 := by simpa using h4
  refine gor hL ?_; (repeat (clear hL; intro t hL; refine gor hL ?_))
  refine pcond_b rfl (fun h5 => ?_) (fun h5 => ?_)
  · have h5' : kk = 5 := by simpa using h5
    subst h5'
    refine gor hL ?_; (repeat (clear hL; intro t hL; refine gor hL ?_))
    refine po_callvp rfl rfl (hsub (.inl rfl) 0 t p3 p4 p5 (by decide) (hL.bk) (hL.bk) (hL.bk)) ?_
    rw [KT.av_eq]
    refine gor hL ?_; (repeat (clear hL; intro t hL; refine gor hL ?_))
    rw [← hQ]
    refine pwk1 hL ?_
    rw [KT.av_eq, Nd.typW, if_neg (by decide), if_pos rfl]
    simp [AV.weak, AV.weak1, KT.kind, KT.most, KT.names, KT.of, KT.row_eq, KT.cs]
    rw [IntWalk.rem_in _ _ (by omega), IntWalk.i64_in (x.n % 60) (by omega), IntWalk.i64_in _ (by omega)]
  have h5' : kk ≠ 5 := by simpa using h5
  refine gor hL ?_; (repeat (clear hL; intro t hL; refine gor hL ?_))
  refine pjoin (fun s u => u = t ∧ s = put (put (put (put (put (put (put (put (fun _ => .undef) (some 61) (b2 (decide (kk = 6 ∨ kk = 8 ∨ kk = 7)))) (some 40) (.d (.int .u8 kk))) (some 9) (ptrAt p9)) (some 8) (.d (.fn 58 [] [.ptr p3 0, .ptr p4 0, .ptr p5 0]))) (some 7) (.d (.int .u8 kk))) (some 6) (ptrAt p6)) (some 5) (ptrAt p5)) (some 3) (ptrAt p3)) ?_ ?_
  · refine gor hL ?_; (repeat (clear hL; intro t hL; refine gor hL ?_))
    refine pcond_b rfl (fun h6 => ?_) (fun h6 => ?_)
    · obtain rfl : kk = 6 := by simpa using h6
      refine gor hL ?_; (repeat (clear hL; intro t hL; refine gor hL ?_))
      exact ⟨tr2, tr2⟩
    · have h6' : kk ≠ 6 := by simpa using h6
      refine gor hL ?_; (repeat (clear hL; intro t hL; refine gor hL ?_))
      refine pcond_b rfl (fun h8 => ?_) (fun h8 => ?_)
      · obtain rfl : kk = 8 := by simpa using h8
        refine gor hL ?_; (repeat (clear hL; intro t hL; refine gor hL ?_))
        exact ⟨tr2, tr2⟩
      · have h8' : kk ≠ 8 := by simpa using h8
        refine gor hL ?_; (repeat (clear hL; intro t hL; refine gor hL ?_))
        refine ⟨tr2, ?_⟩
        rw [show decide (kk = 6 ∨ kk = 8 ∨ kk = 7) = (kk == 7) by rw [Bool.eq_iff_iff]; simp; omega]
        rfl
  rintro s u ⟨rfl, rfl⟩
  refine pcond_b rfl (fun h678 => ?_) (fun h678 => ?_)
  · have h678' : kk = 6 ∨ kk = 8 ∨ kk = 7 := by simpa using h678
    have hmany : x.many < 10 := by unfold Nd.many; omega
    have hm2 : IntKind.i64.wrap (1 + IntKind.i64.wrap (x.n.tmod 3)) = (x.many : Int) := by
      rw [IntWalk.rem_in _ _ (by omega), IntWalk.i64_in (x.n % 3) (by omega), IntWalk.i64_in _ (by omega), Nd.many]; omega
    refine gor hL ?_; (repeat (clear hL; intro t hL; refine gor hL ?_))
    refine gnm ?_; rw [hm2]
    have hlenN : ∀ k, ∀ r ∈ ((List.range k).map fun i => [Dat.str (nameOf i x.n)]), r.length = 1 := fun k r hr => by
      obtain ⟨i, _, rfl⟩ := List.mem_map.1 hr; rfl
    have hlenO : ∀ k, ∀ r ∈ (if kk = 7 then [] else (List.range k).map fun i => (sub i).row), r.length = 4 := fun k r hr => by
      split at hr
      · cases hr
      · obtain ⟨i, _, rfl⟩ := List.mem_map.1 hr; exact KT.row_len _
    (apply prangeJ (x.many) (by omega) (fun k t => ∃ vN vO, VF vN ((List.range k).map fun i => [Dat.str (nameOf i x.n)]) ∧ VF vO (if kk = 7 then [] else (List.range k).map fun i => (sub i).row) ∧ Lay st [.box p9 [.d (.int .u8 kk), .d (.int .i64 0), vN, vO], .vec vN ((List.range k).map fun i => [Dat.str (nameOf i x.n)]) 1, .vec vO (if kk = 7 then [] else (List.range k).map fun i => (sub i).row) 4, .box p6 [.d (.int .u8 0), .d (.int .i64 0), .full [], .full []], .box p5 [.d (strs known)], .box p4 [i64 D], .box p3 [.d (.int .u8 x.kind), .d (.int .u8 x.n), .d (.sl (x.of.map Nd.row))]] t)); (· exact trimA); (· exact fun _ => rfl)
    · refine ⟨.full [], .full [], ?_⟩
      simp only [List.range_zero, List.map_nil, ite_self]
      exact ⟨VF.full _, VF.full _, ((hL.full [] 4).full [] 1).pk⟩
    · rintro t ⟨vN, vO, fN, fO, hL⟩
      obtain ⟨fN_r, fN_w, fN_w1, fN_c, fN_s, fN_d⟩ := id fN
      obtain ⟨fO_r, fO_w, fO_w1, fO_c, fO_s, fO_d⟩ := id fO
      refine gor hL ?_; (repeat (clear hL; intro t hL; refine gor hL ?_))
      refine gor hL ?_; (repeat (clear hL; intro t hL; refine gor hL ?_))
      rw [← hQ]
      refine pwk1 hL ?_
      rw [KT.av_eq, Nd.typW, if_neg h4', if_neg h5']
      simp only [pvwk, fN_w1, fO_w1]
      by_cases h7 : kk = 7
      · rw [if_neg (show ¬ (kk = 6 ∨ kk = 8) by omega), if_pos h7]
        simp only [ktp, h7, if_true, List.map_map, List.map_nil]
        rfl
      · rw [if_pos (show kk = 6 ∨ kk = 8 by omega)]
        simp only [ktp, h7, if_false, List.map_map]
        rfl
    · rintro k hk t ⟨vN, vO, fN, fO, hL⟩
      obtain ⟨fN_r, fN_w, fN_w1, fN_c, fN_s, fN_d⟩ := id fN
      obtain ⟨fO_r, fO_w, fO_w1, fO_c, fO_s, fO_d⟩ := id fO
      refine gor hL ?_; (repeat (clear hL; intro t hL; refine gor hL ?_))
      refine po_callp rfl (C31 k x.n (by omega) hn) ?_
      refine gor hL ?_; (repeat (clear hL; intro t hL; refine gor hL ?_))
      refine po_appA hL (hlenN k) ?_ ?_; (· simp; omega); clear hL; intro vN' t fN' hL; obtain ⟨fN'_r, fN'_w, fN'_w1, fN'_c, fN'_s, fN'_d⟩ := id fN'
      rw [show ((List.range k).map fun i => [Dat.str (nameOf i x.n)]) ++ [[Dat.str (nameOf k x.n)]] = (List.range (k + 1)).map fun i => [Dat.str (nameOf i x.n)] by rw [List.range_succ, List.map_append]; rfl] at fN' hL fN'_r fN'_w fN'_w1
      refine gor hL ?_; (repeat (clear hL; intro t hL; refine gor hL ?_))
      refine pcond_b rfl (fun h7 => ?_) (fun h7 => ?_)
      · have h7' : kk ≠ 7 := by simpa using h7
        rw [if_neg h7'] at fO hL fO_r fO_w fO_w1
        simp only [if_neg h7'] at hlenO
        refine gor hL ?_; (repeat (clear hL; intro t hL; refine gor hL ?_))
        refine po_callvp rfl rfl (hsub (by omega) k t p3 p4 p5 (by omega) (hL.bk) (hL.bk) (hL.bk)) ?_
        rw [KT.av_eq]
        refine gor hL ?_; (repeat (clear hL; intro t hL; refine gor hL ?_))
        refine po_appA hL (hlenO k) ?_ ?_; (· simp; omega); clear hL; intro vO' t fO' hL; obtain ⟨fO'_r, fO'_w, fO'_w1, fO'_c, fO'_s, fO'_d⟩ := id fO'
        have hr' : ((List.range k).map fun i => (sub i).row) ++ [(sub k).row] = (List.range (k + 1)).map fun i => (sub i).row := by rw [List.range_succ, List.map_append]; rfl
        rw [KT.row_eq] at hr'
        simp only [KT.cs] at hr'
        rw [hr'] at fO' hL
        refine gor hL ?_; (repeat (clear hL; intro t hL; refine gor hL ?_))
        refine ⟨⟨vN', vO', fN', ?_, ?_⟩, tr2⟩
        · rw [if_neg h7']; exact fO'
        · rw [if_neg h7']; exact hL.pk
      · obtain rfl : kk = 7 := by simpa using h7
        rw [if_pos rfl] at fO hL fO_r fO_w fO_w1
        refine gor hL ?_; (repeat (clear hL; intro t hL; refine gor hL ?_))
        refine ⟨⟨vN', vO, fN', ?_, ?_⟩, tr2⟩
        · rw [if_pos (by trivial)]; exact fO
        · rw [if_pos (by trivial)]; exact hL.pk
  · have h678' : ¬ (kk = 6 ∨ kk = 8 ∨ kk = 7) := by simpa using h678
    refine gor hL ?_; (repeat (clear hL; intro t hL; refine gor hL ?_))
    refine pcond_b rfl (fun h9 => ?_) (fun h9 => ?_)
    · obtain rfl : kk = 9 := by simpa using h9
      have hn0 := hknown rfl
      have hxn : x.n = ((x.n.toNat : Nat) : Int) := by omega
      have hj : x.n.toNat % known.length < known.length := Nat.mod_lt _ (by omega)
      obtain ⟨y, hy, hm⟩ := elem_at hj
      refine gor hL ?_; (repeat (clear hL; intro t hL; refine gor hL ?_))
      refine gnm ?_; rw [IntWalk.i64_in x.n (by omega), hxn]
      refine po_remN rfl rfl hn0 ?_
      refine gor hL ?_; (repeat (clear hL; intro t hL; refine gor hL ?_))
      rw [← hQ]
      refine pwk1 hL ?_
      rw [KT.av_eq, Nd.typW, if_neg (by decide), if_neg (by decide), if_neg (by decide), if_neg (by decide), if_pos rfl]
      simp [AV.weak, AV.weak1, KT.kind, KT.most, KT.names, KT.of, hy]
    · have h9' : kk ≠ 9 := by simpa using h9
      refine gor hL ?_; (repeat (clear hL; intro t hL; refine gor hL ?_))
      rw [← hQ]
      refine pwk1 hL ?_
      rw [KT.av_eq, Nd.typW, if_neg h4', if_neg h5', if_neg (by omega), if_neg (by omega), if_neg h9']
      rfl

theorem C29 : ∀ (d : Nat) (x : Nd) (known : List ByteArray), d ≤ 1000 → x.fit → known.length < 2 ^ 48 → Pure (PCalls Tryd.prog GK) 29 [x.av, i64 d, .d (strs known)] (Nd.typ d x known).av := by
  intro d
  induction d with
  | zero =>
    intro x known hd hx hk
    exact nodeType 0 x known (fun _ => .mk 0 0 [] []) hd hx hk fun h => by have := Nd.kd_deep h; omega
  | succ d ih =>
    intro x known hd hx hk
    exact nodeType (d + 1) x known (Nd.subW (fun y => Nd.typ d y known) x) hd hx hk fun _ i t p3 p4 p5 hi h3 h4 h5 =>
      nodeSub d x known hd hx (fun y hy => ih y known (by omega) hy hk) i hi h3 h4 h5
end Go.Pv
