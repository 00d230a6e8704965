/- Functions of the program, by value. No condition. -/
import Derived.Test.YtidelhpljjjjmaaW4
namespace Go.Pv
open Go.Proofs
set_option maxRecDepth 100000
set_option maxHeartbeats 8000000

/-- prompter/prompterlaw09.CourierParts -/
abbrev c7_2 : PCode :=
 (.seq (.region [⟨(.some 8), (.mov (.c (.d (.bool .false)))), .none⟩])
 .ret)
abbrev c7_1 : PCode :=
 (.cond (.t 23)
  c7_2
  .skip)
abbrev c7_5 : PCode :=
 (.seq (.region [⟨(.some 8), (.mov (.c (.d (.bool .true)))), .none⟩])
 .ret)
abbrev c7_4 : PCode :=
 (.cond (.t 36)
  c7_5
  .skip)
abbrev c7_16 : PCode :=
 (.seq (.region [⟨(.some 8), (.mov (.c (.d (.bool .true)))), .none⟩])
 .ret)
abbrev c7_15 : PCode :=
 (.cond (.t 95)
  c7_16
  .skip)
abbrev c7_17 : PCode :=
 (.keep [13, 15, 18, 19, 20, 21] (.seq (.region [⟨(.some 96), (.mov (.t 19)), .none⟩,
   ⟨(.some 97), (.bin .eql (.t 96) (.c (.d (.int .i64 0)))), .none⟩,
   ⟨(.some 98), (.mov (.t 97)), .none⟩,
   ⟨(.some 99), (.mov (.t 21)), (.some (98, .true))⟩,
   ⟨(.some 100), (.bin .eql (.t 99) (.c (.d (.int .i64 0)))), (.some (98, .true))⟩,
   ⟨(.some 101), (.pick (.t 98) (.t 100) (.c (.d (.bool .false)))), .none⟩,
   ⟨(.some 102), (.mov (.t 101)), .none⟩,
   ⟨(.some 103), (.mov (.t 18)), (.some (102, .true))⟩,
   ⟨(.some 104), (.strOf (.t 103)), (.some (102, .true))⟩,
   ⟨(.some 105), (.mov (.t 13)), (.some (102, .true))⟩,
   ⟨(.some 106), (.strOf (.t 105)), (.some (102, .true))⟩,
   ⟨(.some 107), (.mov (.t 15)), (.some (102, .true))⟩,
   ⟨(.some 108), (.strOf (.t 107)), (.some (102, .true))⟩,
   ⟨(.some 109), (.bin .add (.t 106) (.t 108)), (.some (102, .true))⟩,
   ⟨(.some 110), (.bin .eql (.t 104) (.t 109)), (.some (102, .true))⟩,
   ⟨(.some 111), (.pick (.t 102) (.t 110) (.c (.d (.bool .false)))), .none⟩,
   ⟨(.some 112), (.mov (.t 111)), .none⟩,
   ⟨(.some 113), (.mov (.t 20)), (.some (112, .true))⟩,
   ⟨(.some 114), (.strOf (.t 113)), (.some (112, .true))⟩,
   ⟨(.some 115), (.mov (.t 15)), (.some (112, .true))⟩,
   ⟨(.some 116), (.strOf (.t 115)), (.some (112, .true))⟩,
   ⟨(.some 117), (.bin .add (.c (.d (.str (bs [0, 1])))) (.t 116)), (.some (112, .true))⟩,
   ⟨(.some 118), (.bin .eql (.t 114) (.t 117)), (.some (112, .true))⟩,
   ⟨(.some 119), (.pick (.t 112) (.t 118) (.c (.d (.bool .false)))), .none⟩,
   ⟨(.some 8), (.mov (.t 119)), .none⟩])
 .ret))
abbrev c7_14 : PCode :=
 (.keep [13, 14, 15, 16, 18, 19, 20, 21] (.seq (.seq (.region [⟨(.some 82), (.mov (.t 14)), .none⟩,
   ⟨(.some 83), (.bin .neq (.t 82) (.c (.d (.int .i64 0)))), .none⟩,
   ⟨(.some 84), (.mov (.t 83)), .none⟩,
   ⟨(.some 85), (.mov (.t 16)), (.some (84, .false))⟩,
   ⟨(.some 86), (.bin .neq (.t 85) (.c (.d (.int .i64 0)))), (.some (84, .false))⟩,
   ⟨(.some 87), (.pick (.t 84) (.c (.d (.bool .true))) (.t 86)), .none⟩,
   ⟨(.some 88), (.mov (.t 87)), .none⟩,
   ⟨(.some 89), (.mov (.t 13)), (.some (88, .false))⟩,
   ⟨(.some 90), (.len (.t 89)), (.some (88, .false))⟩,
   ⟨(.some 91), (.mov (.t 15)), (.some (88, .false))⟩,
   ⟨(.some 92), (.len (.t 91)), (.some (88, .false))⟩,
   ⟨(.some 93), (.bin .add (.t 90) (.t 92)), (.some (88, .false))⟩,
   ⟨(.some 94), (.bin .gtr (.t 93) (.c (.d (.int .i64 3990)))), (.some (88, .false))⟩,
   ⟨(.some 95), (.pick (.t 88) (.c (.d (.bool .true))) (.t 94)), .none⟩])
 c7_15)
 c7_17))
abbrev c7_13 : PCode :=
 (.seq (.region [⟨(.some 75), (.load .true 4 (.t 17) .false), .none⟩,
   ⟨(.some 76), (.load .true 4 (.t 12) .false), .none⟩,
   ⟨(.some 77), (.bsl 4 [(.t 76)]), .none⟩,
   ⟨(.some 78), (.bld [(.d (.int .i64 0)), (.d (.flt .f64 0)), (.d (.str (bs []))), (.full [])] [(0, (1, (.c (.d (.int .i64 1))))), (3, (1, (.t 77)))]), .none⟩,
   ⟨(.some 79), (.call0 29 [(.t 75), (.t 78)]), .none⟩,
   ⟨(.some 74), (.mov (.t 79)), .none⟩,
   ⟨(.some 80), (.ext (.t 74) 0), .none⟩,
   ⟨(.some 81), (.ext (.t 74) 1), .none⟩,
   ⟨(.some 20), (.mov (.t 80)), .none⟩,
   ⟨(.some 21), (.mov (.t 81)), .none⟩])
 c7_14)
abbrev c7_12 : PCode :=
 (.keep [12, 13, 14, 15, 16, 17, 18, 19] (.seq (.region [⟨(.some 73), (.faddr 0 (.t 17)), .none⟩,
   ⟨.none, (.store 1 (.t 73) (.c (.d (.int .u8 8)))), .none⟩])
 c7_13))
abbrev c7_11 : PCode :=
 (.keep [11, 12, 13, 14, 15, 16, 17] (.seq (.region [⟨(.some 65), (.load .true 4 (.t 17) .false), .none⟩,
   ⟨(.some 66), (.load .true 4 (.t 11) .false), .none⟩,
   ⟨(.some 67), (.load .true 4 (.t 12) .false), .none⟩,
   ⟨(.some 68), (.bsl 4 [(.t 66), (.t 67)]), .none⟩,
   ⟨(.some 69), (.bld [(.d (.int .i64 0)), (.d (.flt .f64 0)), (.d (.str (bs []))), (.full [])] [(3, (1, (.t 68)))]), .none⟩,
   ⟨(.some 70), (.call0 29 [(.t 65), (.t 69)]), .none⟩,
   ⟨(.some 64), (.mov (.t 70)), .none⟩,
   ⟨(.some 71), (.ext (.t 64) 0), .none⟩,
   ⟨(.some 72), (.ext (.t 64) 1), .none⟩,
   ⟨(.some 18), (.mov (.t 71)), .none⟩,
   ⟨(.some 19), (.mov (.t 72)), .none⟩])
 c7_12))
abbrev c7_10 : PCode :=
 (.keep [9, 10, 11, 12, 13, 14, 15, 16] (.seq (.region [⟨(.some 59), (.bsl 1 [(.c (.d (.str (bs [97])))), (.c (.d (.str (bs [98]))))]), .none⟩,
   ⟨(.some 60), (.load .true 4 (.t 9) .false), .none⟩,
   ⟨(.some 61), (.load .true 4 (.t 10) .false), .none⟩,
   ⟨(.some 62), (.bsl 4 [(.t 60), (.t 61)]), .none⟩,
   ⟨(.some 63), (.bld [(.d (.int .u8 0)), (.d (.int .i64 0)), (.full []), (.full [])] [(0, (1, (.c (.d (.int .u8 6))))), (2, (1, (.t 59))), (3, (1, (.t 62)))]), .none⟩,
   ⟨(.some 17), (.alloc [(.d (.int .u8 0)), (.d (.int .i64 0)), (.full []), (.full [])]), .none⟩,
   ⟨.none, (.store 4 (.t 17) (.t 63)), .none⟩])
 c7_11))
abbrev c7_9 : PCode :=
 (.keep [9, 10, 11, 12, 13, 14] (.seq (.region [⟨(.some 54), (.load .true 4 (.t 10) .false), .none⟩,
   ⟨(.some 55), (.load .true 4 (.t 12) .false), .none⟩,
   ⟨(.some 56), (.call0 29 [(.t 54), (.t 55)]), .none⟩,
   ⟨(.some 53), (.mov (.t 56)), .none⟩,
   ⟨(.some 57), (.ext (.t 53) 0), .none⟩,
   ⟨(.some 58), (.ext (.t 53) 1), .none⟩,
   ⟨(.some 15), (.mov (.t 57)), .none⟩,
   ⟨(.some 16), (.mov (.t 58)), .none⟩])
 c7_10))
abbrev c7_8 : PCode :=
 (.keep [9, 10, 11, 12] (.seq (.region [⟨(.some 48), (.load .true 4 (.t 9) .false), .none⟩,
   ⟨(.some 49), (.load .true 4 (.t 11) .false), .none⟩,
   ⟨(.some 50), (.call0 29 [(.t 48), (.t 49)]), .none⟩,
   ⟨(.some 47), (.mov (.t 50)), .none⟩,
   ⟨(.some 51), (.ext (.t 47) 0), .none⟩,
   ⟨(.some 52), (.ext (.t 47) 1), .none⟩,
   ⟨(.some 13), (.mov (.t 51)), .none⟩,
   ⟨(.some 14), (.mov (.t 52)), .none⟩])
 c7_9))
abbrev c7_7 : PCode :=
 (.keep [2, 9, 10] (.seq (.region [⟨(.some 41), (.load .true 4 (.t 9) .false), .none⟩,
   ⟨(.some 42), (.mov (.t 2)), .none⟩,
   ⟨(.some 43), (.callp 14 [(.t 41), (.t 42)]), .none⟩,
   ⟨(.some 44), (.load .true 4 (.t 10) .false), .none⟩,
   ⟨(.some 45), (.mov (.t 2)), .none⟩,
   ⟨(.some 46), (.callp 14 [(.t 44), (.t 45)]), .none⟩,
   ⟨(.some 11), (.alloc [(.d (.int .i64 0)), (.d (.flt .f64 0)), (.d (.str (bs []))), (.full [])]), .none⟩,
   ⟨(.some 12), (.alloc [(.d (.int .i64 0)), (.d (.flt .f64 0)), (.d (.str (bs []))), (.full [])]), .none⟩,
   ⟨.none, (.store 4 (.t 11) (.t 43)), .none⟩,
   ⟨.none, (.store 4 (.t 12) (.t 46)), .none⟩])
 c7_8))
abbrev c7_6 : PCode :=
 (.keep [2, 4, 5] (.seq (.region [⟨(.some 37), (.load .true 3 (.t 4) .false), .none⟩,
   ⟨(.some 38), (.callp 27 [(.t 37), (.c (.d (.int .i64 3))), (.c (.full []))]), .none⟩,
   ⟨(.some 39), (.load .true 3 (.t 5) .false), .none⟩,
   ⟨(.some 40), (.callp 27 [(.t 39), (.c (.d (.int .i64 3))), (.c (.full []))]), .none⟩,
   ⟨(.some 9), (.alloc [(.d (.int .u8 0)), (.d (.int .i64 0)), (.full []), (.full [])]), .none⟩,
   ⟨(.some 10), (.alloc [(.d (.int .u8 0)), (.d (.int .i64 0)), (.full []), (.full [])]), .none⟩,
   ⟨.none, (.store 4 (.t 9) (.t 38)), .none⟩,
   ⟨.none, (.store 4 (.t 10) (.t 40)), .none⟩])
 c7_7))
abbrev c7_3 : PCode :=
 (.keep [2, 4, 5] (.seq (.seq (.region [⟨(.some 24), (.load .true 3 (.t 4) .false), .none⟩,
   ⟨(.some 25), (.call0 13 [(.t 24), (.c (.d (.int .i64 3)))]), .none⟩,
   ⟨(.some 26), (.not (.t 25)), .none⟩,
   ⟨(.some 27), (.mov (.t 26)), .none⟩,
   ⟨(.some 28), (.load .true 3 (.t 5) .false), (.some (27, .false))⟩,
   ⟨(.some 29), (.call0 13 [(.t 28), (.c (.d (.int .i64 3)))]), (.some (27, .false))⟩,
   ⟨(.some 30), (.not (.t 29)), (.some (27, .false))⟩,
   ⟨(.some 31), (.pick (.t 27) (.c (.d (.bool .true))) (.t 30)), .none⟩,
   ⟨(.some 32), (.mov (.t 31)), .none⟩,
   ⟨(.some 33), (.mov (.t 2)), (.some (32, .false))⟩,
   ⟨(.some 34), (.len (.t 33)), (.some (32, .false))⟩,
   ⟨(.some 35), (.bin .gtr (.t 34) (.c (.d (.int .i64 40)))), (.some (32, .false))⟩,
   ⟨(.some 36), (.pick (.t 32) (.c (.d (.bool .true))) (.t 35)), .none⟩])
 c7_4)
 c7_6))
abbrev c7_0 : PCode :=
 (.keep [2, 4, 5] (.seq (.seq (.region [⟨(.some 22), (.call0 28 []), .none⟩,
   ⟨(.some 23), (.not (.t 22)), .none⟩])
 c7_1)
 c7_3))
def c7 : PFun := ⟨
 (.seq (.region [⟨(.some 4), (.box 3 (.t 0)), .none⟩,
   ⟨(.some 5), (.box 3 (.t 1)), .none⟩,
   ⟨(.some 8), (.mov (.c (.d (.bool .false)))), .none⟩])
 c7_0),
 4, 120, [(.tmp 8)]⟩

theorem e7 : entered Try.prog 7 = true := by kernel_rfl
theorem k7 : compFun Try.prog (fun i => if i = 5 then 1 else if i = 6 then 1 else 0) 7 = some c7.er := by kernel_rfl


theorem both_put {e : Nat} {T U : KT} {a b : VT} : putR (e + 1) (recT2 T U) (both a b) = putR e T a ++ putR e U b := by
  rw [recT2, put6]
  show [] ++ (List.range 2).flatMap _ = _
  simp [List.range_succ]
  rfl
def oneT (T U : KT) : KT := .mk 8 0 [bs [97], bs [98]] [T, U]
def one (b : VT) : VT := .mk 1 0 (bs []) [b]
theorem one_is {e : Nat} {T U : KT} {b : VT} (hb : VT.is e U b = true) : VT.is (e + 1) (oneT T U) (one b) = true := by
  rw [oneT, is8]
  simp [one, noFT_zero, VT.pj]
  exact hb
theorem one_put {e : Nat} {T U : KT} {b : VT} : putR (e + 1) (oneT T U) (one b) = [0, 1] ++ putR e U b := by
  rw [oneT, put8]
  show wordB 1 ++ (List.range 1).flatMap _ = _
  simp [List.range_succ]
  rfl
theorem one_fit {b : VT} (hb : b.fit) : (one b).fit := .mk (by decide) (by decide) (by decide) (by simp) fun x hx => by
  have : x = b := by simpa using hx
  rw [this]; exact hb
theorem C7 (x y : Nd) (hx : x.fit) (hy : y.fit) (l : List Int) (hr : ∀ x ∈ l, -9223372036854775808 ≤ x ∧ x ≤ 9223372036854775807) (bb : Bool) :
    Pure (PCalls Try.prog GG) 7 [x.av, y.av, .d (i64s l), .d (.bool bb)] (b2 true) := by
  obtain ⟨tw, t1, t2, t3⟩ := typ_le3 hx
  obtain ⟨uw, u1, u2, u3⟩ := typ_le3 hy
  have hT := C27 3 x [] (by decide) hx (by decide)
  have hU := C27 3 y [] (by decide) hy (by decide)
  intro st; refine pcalls_of k7 e7 (of_decide_eq_true rfl) ?_; dsimp only [c7]; refine pstartL ?_; intro t hL; generalize hQ : pfin _ _ = Q
  (refine gor hL ?_; (repeat (clear hL; intro t hL; refine gor hL ?_))); refine po_boxA hL ?_; clear hL; intro p4 t hL
  (refine gor hL ?_; (repeat (clear hL; intro t hL; refine gor hL ?_))); refine po_boxA hL ?_; clear hL; intro p5 t hL
  refine gor hL ?_; (repeat (clear hL; intro t hL; refine gor hL ?_))
  refine po_c0 (putAwake) ?_
  refine gor hL ?_; (repeat (clear hL; intro t hL; refine gor hL ?_))
  refine po_c0 (C13 x 3 hx (by decide)) ?_
  refine gor hL ?_; (repeat (clear hL; intro t hL; refine gor hL ?_))
  ((with_reducible apply po_g); (· exact gwt); (· (intro hw; refine does_call0 ?_ (C13 y 3 hy (by decide)); exact gargs hw)))
  refine gor hL ?_; (repeat (clear hL; intro t hL; refine gor hL ?_))
  refine pcond_b rfl (fun hq => ?_) (fun hq => ?_)
  · refine gor hL ?_; (repeat (clear hL; intro t hL; refine gor hL ?_))
    rw [← hQ]
    exact pfin_pure rfl hL.le
  simp only [Bool.or_eq_false_iff, decide_eq_false_iff_not] at hq
  have hl : l.length < 2 ^ 40 := by omega
  generalize Nd.typ 3 x [] = T at *
  generalize Nd.typ 3 y [] = U at *
  have bA := bt hr tw t3
  have bB := bt hr uw u3
  have hVA := C14 l hl hr T t1 t2 (by omega)
  have hVB := C14 l hl hr U u1 u2 (by omega)
  have hP := putV tw (by decide) bA.fit bA.is bA.cnt
  have hQ' := putV uw (by decide) bB.fit bB.is bB.cnt
  have rw4 : WT 4 (recT2 T U) := tw.rec2 uw (.inl rfl)
  have ow4 : WT 4 (oneT T U) := tw.rec2 uw (.inr rfl)
  have hbi := both_is bA.is bB.is
  have hoi : VT.is 4 (oneT T U) (one (buildV l U)) = true := one_is bB.is
  have hlA := putR_few tw bA.is
  have hlB := putR_few uw bB.is
  have cA := bA.cnt
  have cB := bB.cnt
  have hR := C29 rw4 (by decide) _ (both_fit bA.fit bB.fit) fun _ => by rw [both_put, List.length_append]; omega
  have hC := C29 ow4 (by decide) _ (one_fit bB.fit) fun _ => by rw [one_put, List.length_append, List.length_cons, List.length_singleton]; omega
  have hbA := putR_bytes 3 T (buildV l T)
  have hbB := putR_bytes 3 U (buildV l U)
  have eR : (putR 3 T (buildV l T)).length ≤ 4000 → (putR 3 U (buildV l U)).length ≤ 4000 → ¬ (putR 3 T (buildV l T)).length + (putR 3 U (buildV l U)).length > 3990 → (putE 4 (recT2 T U) (both (buildV l T) (buildV l U)) = putR 3 T (buildV l T) ++ putR 3 U (buildV l U) ∧ putN 4 (recT2 T U) (both (buildV l T) (buildV l U)) = 0) ∧ (putE 4 (oneT T U) (one (buildV l U)) = [0, 1] ++ putR 3 U (buildV l U) ∧ putN 4 (oneT T U) (one (buildV l U)) = 0) := by
    intro h1 h2 h3
    have k1 := putN_small hbi (by rw [both_put, List.length_append]; omega)
    have k2 := putN_small hoi (by rw [one_put, List.length_append, List.length_cons, List.length_singleton]; omega)
    rw [both_put] at k1
    rw [one_put] at k2
    exact ⟨k1, k2⟩
  have sA := fun h => putN_small bA.is h
  have gA := fun h => putN_great bA.is h
  have sB := fun h => putN_small bB.is h
  have gB := fun h => putN_great bB.is h
  generalize putE 4 (recT2 T U) (both (buildV l T) (buildV l U)) = ER at *
  generalize putN 4 (recT2 T U) (both (buildV l T) (buildV l U)) = NR at *
  generalize putE 4 (oneT T U) (one (buildV l U)) = EC at *
  generalize putN 4 (oneT T U) (one (buildV l U)) = NC at *
  generalize putE 3 T (buildV l T) = EA at *
  generalize putN 3 T (buildV l T) = NA at *
  generalize putE 3 U (buildV l U) = EB at *
  generalize putN 3 U (buildV l U) = NB at *
  generalize putR 3 T (buildV l T) = PA at *
  generalize putR 3 U (buildV l U) = PB at *
  generalize buildV l T = A at *
  generalize buildV l U = B at *
  simp only [VT.av_eq, KT.av_eq, KT.row_eq, KT.cs, VT.row_eq, VT.cs, recT2, oneT, one, both, VT.pj, KT.pj, List.map_cons, List.map_nil] at hT hU hVA hVB hP hQ' hR hC
  refine gor hL ?_; (repeat (clear hL; intro t hL; refine gor hL ?_))
  refine po_cp (hT) ?_
  refine gor hL ?_; (repeat (clear hL; intro t hL; refine gor hL ?_))
  refine po_cp (hU) ?_
  refine gor hL ?_; (repeat (clear hL; intro t hL; refine gor hL ?_))
  (refine gor hL ?_; (repeat (clear hL; intro t hL; refine gor hL ?_))); (with_reducible refine po_allocL hL rfl ?_); clear hL; intro p9 t hL
  refine gor hL ?_; (repeat (clear hL; intro t hL; refine gor hL ?_))
  (refine gor hL ?_; (repeat (clear hL; intro t hL; refine gor hL ?_))); (with_reducible refine po_allocL hL rfl ?_); clear hL; intro p10 t hL
  refine gor hL ?_; (repeat (clear hL; intro t hL; refine gor hL ?_))
  refine po_cp (hVA) ?_
  refine gor hL ?_; (repeat (clear hL; intro t hL; refine gor hL ?_))
  refine po_cp (hVB) ?_
  refine gor hL ?_; (repeat (clear hL; intro t hL; refine gor hL ?_))
  (refine gor hL ?_; (repeat (clear hL; intro t hL; refine gor hL ?_))); (with_reducible refine po_allocL hL rfl ?_); clear hL; intro p11 t hL
  refine gor hL ?_; (repeat (clear hL; intro t hL; refine gor hL ?_))
  (refine gor hL ?_; (repeat (clear hL; intro t hL; refine gor hL ?_))); (with_reducible refine po_allocL hL rfl ?_); clear hL; intro p12 t hL
  refine gor hL ?_; (repeat (clear hL; intro t hL; refine gor hL ?_))
  refine po_c0 (hP) ?_
  refine gor hL ?_; (repeat (clear hL; intro t hL; refine gor hL ?_))
  refine po_c0 (hQ') ?_
  refine gor hL ?_; (repeat (clear hL; intro t hL; refine gor hL ?_))
  (refine gor hL ?_; (repeat (clear hL; intro t hL; refine gor hL ?_))); (with_reducible refine po_allocL hL rfl ?_); clear hL; intro p17 t hL
  refine gor hL ?_; (repeat (clear hL; intro t hL; refine gor hL ?_))
  refine po_c0 (hR) ?_
  refine gor hL ?_; (repeat (clear hL; intro t hL; refine gor hL ?_))
  refine po_c0 (hC) ?_
  refine gor hL ?_; (repeat (clear hL; intro t hL; refine gor hL ?_))
  by_cases h1 : PA.length ≤ 4000
  · obtain ⟨rfl, rfl⟩ := sA h1
    by_cases h2 : PB.length ≤ 4000
    · obtain ⟨rfl, rfl⟩ := sB h2
      refine gor hL ?_; (repeat (clear hL; intro t hL; refine gor hL ?_))
      refine pcond_b rfl (fun h3 => ?_) (fun h3 => ?_)
      · refine gor hL ?_; (repeat (clear hL; intro t hL; refine gor hL ?_))
        rw [← hQ]
        exact pfin_pure rfl hL.le
      have h3' : ¬ EA.length + EB.length > 3990 := by
        rw [IntWalk.i64_in _ (by omega)] at h3
        have : ¬ ((EA.length : Int) + (EB.length : Int)) > 3990 := by simpa using h3
        omega
      obtain ⟨⟨rfl, rfl⟩, ⟨rfl, rfl⟩⟩ := eR h1 h2 h3'
      refine gor hL ?_; (repeat (clear hL; intro t hL; refine gor hL ?_))
      refine po rfl (ev_strOf rfl) ?_
      refine gor hL ?_; (repeat (clear hL; intro t hL; refine gor hL ?_))
      refine po rfl (ev_strOf rfl) ?_
      refine gor hL ?_; (repeat (clear hL; intro t hL; refine gor hL ?_))
      refine po rfl (ev_strOf rfl) ?_
      refine gor hL ?_; (repeat (clear hL; intro t hL; refine gor hL ?_))
      refine po rfl (str_add rfl rfl (by rw [strOfL_size, strOfL_size]; omega)) ?_
      refine gor hL ?_; (repeat (clear hL; intro t hL; refine gor hL ?_))
      refine gnm ?_; rw [strOfL_app, beq_self_eq_true]
      refine gor hL ?_; (repeat (clear hL; intro t hL; refine gor hL ?_))
      refine po rfl (ev_strOf rfl) ?_
      refine gor hL ?_; (repeat (clear hL; intro t hL; refine gor hL ?_))
      refine po rfl (ev_strOf rfl) ?_
      refine gor hL ?_; (repeat (clear hL; intro t hL; refine gor hL ?_))
      refine po rfl (str_add (x := strOfL [0, 1]) rfl rfl (by rw [strOfL_size, strOfL_size]; simp; omega)) ?_
      refine gor hL ?_; (repeat (clear hL; intro t hL; refine gor hL ?_))
      rw [← hQ]
      refine pfin_pure (congrArg (fun z => some (b2 z)) (?_ : ((strOfL ([0, 1] ++ EB)).toList == (strOfL [0, 1] ++ strOfL EB).toList) = true)) hL.le
      rw [strOfL_app]
      exact beq_self_eq_true _
    · obtain ⟨rfl, rfl⟩ := gB h2
      refine gor hL ?_; (repeat (clear hL; intro t hL; refine gor hL ?_))
      rw [← hQ]
      exact pfin_pure rfl hL.le
  · obtain ⟨rfl, rfl⟩ := gA h1
    refine gor hL ?_; (repeat (clear hL; intro t hL; refine gor hL ?_))
    rw [← hQ]
    exact pfin_pure rfl hL.le
end Go.Pv
