/- Functions of the program, by value. No condition. -/
import Derived.Test.YtidelhpljjjjmaaV17
import Derived.Test.YtidelhpljjjjmaaE1
namespace Go.Pv
open Go.Proofs
set_option maxRecDepth 100000
set_option maxHeartbeats 8000000

/-- prompter/prompterlaw08.ValueNone -/
abbrev c6_2 : PCode :=
 (.seq (.region [⟨(.some 6), (.mov (.c (.d (.bool .false)))), .none⟩])
 .ret)
abbrev c6_1 : PCode :=
 (.cond (.t 23)
  c6_2
  .skip)
abbrev c6_5 : PCode :=
 (.seq (.region [⟨(.some 6), (.mov (.c (.d (.bool .true)))), .none⟩])
 .ret)
abbrev c6_4 : PCode :=
 (.cond (.t 36)
  c6_5
  .skip)
abbrev c6_13 : PCode :=
 (.seq (.region [⟨(.some 6), (.mov (.c (.d (.bool .false)))), .none⟩])
 .ret)
abbrev c6_12 : PCode :=
 (.cond (.t 55)
  c6_13
  .skip)
abbrev c6_11 : PCode :=
 (.keep [2, 7, 8, 9, 10, 12, 48, 49, 50] (.seq (.region [⟨(.some 54), (.mov (.t 12)), .none⟩,
   ⟨(.some 55), (.bin .neq (.t 54) (.c (.d (.int .i64 0)))), .none⟩])
 c6_12))
abbrev c6_10 : PCode :=
 (.block 1 (.seq (.region [⟨(.some 52), (.iaddr 1 (.t 48) (.t 50)), .none⟩,
   ⟨(.some 53), (.load .false 1 (.t 52) .false), .none⟩,
   ⟨(.some 12), (.mov (.t 53)), .none⟩])
 c6_11))
abbrev c6_9 : PCode :=
 (.keep [2, 7, 8, 9, 10, 48, 49, 50] (.block 0 (.loop (.some [50, 2, 7, 8, 9, 10, 48, 49]) (.seq (.region [⟨(.some 51), (.bin .lss (.t 50) (.t 49)), .none⟩])
 (.seq (.cond (.t 51)
  .skip
  (.exit 0))
 (.seq c6_10
 (.region [⟨(.some 56), (.bin .add (.t 50) (.c (.d (.int .i64 1)))), .none⟩,
   ⟨(.some 50), (.mov (.t 56)), .none⟩])))))))
abbrev c6_20 : PCode :=
 (.seq (.region [⟨(.some 6), (.mov (.c (.d (.bool .true)))), .none⟩])
 .ret)
abbrev c6_19 : PCode :=
 (.cond (.t 88)
  c6_20
  .skip)
abbrev c6_23 : PCode :=
 (.seq (.region [⟨(.some 6), (.mov (.c (.d (.bool .false)))), .none⟩])
 .ret)
abbrev c6_22 : PCode :=
 (.cond (.t 102)
  c6_23
  .skip)
abbrev c6_29 : PCode :=
 (.seq (.region [⟨(.some 6), (.mov (.c (.d (.bool .false)))), .none⟩])
 .ret)
abbrev c6_28 : PCode :=
 (.cond (.t 117)
  c6_29
  .skip)
abbrev c6_27 : PCode :=
 (.keep [9, 10, 19, 20, 21, 105, 106, 107] (.seq (.region [⟨(.some 112), (.mov (.t 19)), .none⟩,
   ⟨(.some 113), (.mov (.t 20)), .none⟩,
   ⟨(.some 114), (.iaddr 1 (.t 112) (.t 113)), .none⟩,
   ⟨(.some 115), (.load .false 1 (.t 114) .false), .none⟩,
   ⟨(.some 116), (.mov (.t 21)), .none⟩,
   ⟨(.some 117), (.bin .neq (.t 115) (.t 116)), .none⟩])
 c6_28))
abbrev c6_26 : PCode :=
 (.block 3 (.seq (.region [⟨(.some 109), (.mov (.t 107)), .none⟩,
   ⟨(.some 110), (.iaddr 1 (.t 105) (.t 107)), .none⟩,
   ⟨(.some 111), (.load .false 1 (.t 110) .false), .none⟩,
   ⟨(.some 20), (.mov (.t 109)), .none⟩,
   ⟨(.some 21), (.mov (.t 111)), .none⟩])
 c6_27))
abbrev c6_25 : PCode :=
 (.keep [9, 10, 19, 105, 106, 107] (.block 2 (.loop (.some [107, 9, 10, 19, 105, 106]) (.seq (.region [⟨(.some 108), (.bin .lss (.t 107) (.t 106)), .none⟩])
 (.seq (.cond (.t 108)
  .skip
  (.exit 2))
 (.seq c6_26
 (.region [⟨(.some 118), (.bin .add (.t 107) (.c (.d (.int .i64 1)))), .none⟩,
   ⟨(.some 107), (.mov (.t 118)), .none⟩])))))))
abbrev c6_30 : PCode :=
 (.seq (.region [⟨(.some 119), (.load .true 4 (.t 9) .false), .none⟩,
   ⟨(.some 120), (.load .true 4 (.t 10) .false), .none⟩,
   ⟨(.some 121), (.call0 18 [(.t 119), (.t 120)]), .none⟩,
   ⟨(.some 6), (.mov (.t 121)), .none⟩])
 .ret)
abbrev c6_24 : PCode :=
 (.keep [9, 10, 17, 18, 19] (.seq (.seq (.region [⟨(.some 103), (.mov (.t 17)), .none⟩,
   ⟨(.some 104), (.mov (.t 18)), .none⟩,
   ⟨(.some 105), (.app 1 8 (.t 103) (.t 104)), .none⟩,
   ⟨(.some 106), (.len (.t 105)), .none⟩,
   ⟨(.some 107), (.mov (.c (.d (.int .i64 0)))), .none⟩])
 c6_25)
 c6_30))
abbrev c6_21 : PCode :=
 (.keep [9, 10, 15, 16, 17, 18, 19] (.seq (.seq (.region [⟨(.some 89), (.mov (.t 19)), .none⟩,
   ⟨(.some 90), (.len (.t 89)), .none⟩,
   ⟨(.some 91), (.mov (.t 17)), .none⟩,
   ⟨(.some 92), (.len (.t 91)), .none⟩,
   ⟨(.some 93), (.mov (.t 18)), .none⟩,
   ⟨(.some 94), (.len (.t 93)), .none⟩,
   ⟨(.some 95), (.bin .add (.t 92) (.t 94)), .none⟩,
   ⟨(.some 96), (.bin .neq (.t 90) (.t 95)), .none⟩,
   ⟨(.some 97), (.mov (.t 96)), .none⟩,
   ⟨(.some 98), (.load .true 4 (.t 15) .false), (.some (97, .false))⟩,
   ⟨(.some 99), (.load .true 4 (.t 16) .false), (.some (97, .false))⟩,
   ⟨(.some 100), (.call0 22 [(.t 98), (.t 99)]), (.some (97, .false))⟩,
   ⟨(.some 101), (.bin .neq (.t 100) (.c (.d (.int .i64 0)))), (.some (97, .false))⟩,
   ⟨(.some 102), (.pick (.t 97) (.c (.d (.bool .true))) (.t 101)), .none⟩])
 c6_22)
 c6_24))
abbrev c6_18 : PCode :=
 (.keep [9, 10, 15, 16, 17, 18, 19] (.seq (.seq (.region [⟨(.some 81), (.mov (.t 17)), .none⟩,
   ⟨(.some 82), (.len (.t 81)), .none⟩,
   ⟨(.some 83), (.bin .geq (.t 82) (.c (.d (.int .i64 1000)))), .none⟩,
   ⟨(.some 84), (.mov (.t 83)), .none⟩,
   ⟨(.some 85), (.mov (.t 18)), (.some (84, .false))⟩,
   ⟨(.some 86), (.len (.t 85)), (.some (84, .false))⟩,
   ⟨(.some 87), (.bin .geq (.t 86) (.c (.d (.int .i64 1000)))), (.some (84, .false))⟩,
   ⟨(.some 88), (.pick (.t 84) (.c (.d (.bool .true))) (.t 87)), .none⟩])
 c6_19)
 c6_21))
abbrev c6_17 : PCode :=
 (.keep [7, 8, 9, 10, 13, 14, 15, 16] (.seq (.region [⟨(.some 72), (.load .true 4 (.t 7) .true), .none⟩,
   ⟨(.some 73), (.load .true 4 (.t 13) .true), .none⟩,
   ⟨(.some 74), (.call 23 [(.t 72), (.t 73), (.c (.d (.int .i64 1000)))]), .none⟩,
   ⟨(.some 75), (.load .true 4 (.t 8) .true), .none⟩,
   ⟨(.some 76), (.load .true 4 (.t 14) .true), .none⟩,
   ⟨(.some 77), (.call 23 [(.t 75), (.t 76), (.c (.d (.int .i64 1000)))]), .none⟩,
   ⟨(.some 78), (.load .true 4 (.t 15) .true), .none⟩,
   ⟨(.some 79), (.load .true 4 (.t 16) .true), .none⟩,
   ⟨(.some 80), (.call 23 [(.t 78), (.t 79), (.c (.d (.int .i64 3000)))]), .none⟩,
   ⟨(.some 17), (.mov (.t 74)), .none⟩,
   ⟨(.some 18), (.mov (.t 77)), .none⟩,
   ⟨(.some 19), (.mov (.t 80)), .none⟩])
 c6_18))
abbrev c6_16 : PCode :=
 (.keep [7, 8, 9, 10, 13, 14, 15] (.seq (.region [⟨(.some 68), (.load .true 4 (.t 13) .false), .none⟩,
   ⟨(.some 69), (.load .true 4 (.t 14) .false), .none⟩,
   ⟨(.some 70), (.bsl 4 [(.t 68), (.t 69)]), .none⟩,
   ⟨(.some 71), (.bld [(.d (.int .i64 0)), (.d (.flt .f64 0)), (.d (.str (bs []))), (.full [])] [(3, (1, (.t 70)))]), .none⟩,
   ⟨(.some 16), (.alloc [(.d (.int .i64 0)), (.d (.flt .f64 0)), (.d (.str (bs []))), (.full [])]), .none⟩,
   ⟨.none, (.store 4 (.t 16) (.t 71)), .none⟩])
 c6_17))
abbrev c6_15 : PCode :=
 (.keep [7, 8, 9, 10, 13, 14] (.seq (.region [⟨(.some 63), (.bsl 1 [(.c (.d (.str (bs [97])))), (.c (.d (.str (bs [98]))))]), .none⟩,
   ⟨(.some 64), (.load .true 4 (.t 7) .false), .none⟩,
   ⟨(.some 65), (.load .true 4 (.t 8) .false), .none⟩,
   ⟨(.some 66), (.bsl 4 [(.t 64), (.t 65)]), .none⟩,
   ⟨(.some 67), (.bld [(.d (.int .u8 0)), (.d (.int .i64 0)), (.full []), (.full [])] [(0, (1, (.c (.d (.int .u8 6))))), (2, (1, (.t 63))), (3, (1, (.t 66)))]), .none⟩,
   ⟨(.some 15), (.alloc [(.d (.int .u8 0)), (.d (.int .i64 0)), (.full []), (.full [])]), .none⟩,
   ⟨.none, (.store 4 (.t 15) (.t 67)), .none⟩])
 c6_16))
abbrev c6_14 : PCode :=
 (.seq (.region [⟨(.some 57), (.load .true 4 (.t 7) .false), .none⟩,
   ⟨(.some 58), (.mov (.t 2)), .none⟩,
   ⟨(.some 59), (.callp 14 [(.t 57), (.t 58)]), .none⟩,
   ⟨(.some 60), (.load .true 4 (.t 8) .false), .none⟩,
   ⟨(.some 61), (.mov (.t 2)), .none⟩,
   ⟨(.some 62), (.callp 14 [(.t 60), (.t 61)]), .none⟩,
   ⟨(.some 13), (.alloc [(.d (.int .i64 0)), (.d (.flt .f64 0)), (.d (.str (bs []))), (.full [])]), .none⟩,
   ⟨(.some 14), (.alloc [(.d (.int .i64 0)), (.d (.flt .f64 0)), (.d (.str (bs []))), (.full [])]), .none⟩,
   ⟨.none, (.store 4 (.t 13) (.t 59)), .none⟩,
   ⟨.none, (.store 4 (.t 14) (.t 62)), .none⟩])
 c6_15)
abbrev c6_8 : PCode :=
 (.keep [2, 7, 8, 9, 10] (.seq (.seq (.region [⟨(.some 46), (.load .true 4 (.t 7) .false), .none⟩,
   ⟨(.some 47), (.load .true 4 (.t 9) .false), .none⟩,
   ⟨(.some 48), (.call0 23 [(.t 46), (.t 47), (.c (.d (.int .i64 1000)))]), .none⟩,
   ⟨(.some 49), (.len (.t 48)), .none⟩,
   ⟨(.some 50), (.mov (.c (.d (.int .i64 0)))), .none⟩])
 c6_9)
 c6_14))
abbrev c6_7 : PCode :=
 (.keep [2, 7, 8] (.seq (.region [⟨(.some 41), (.load .true 4 (.t 7) .false), .none⟩,
   ⟨(.some 42), (.callp 14 [(.t 41), (.c (.full []))]), .none⟩,
   ⟨(.some 43), (.load .true 4 (.t 7) .false), .none⟩,
   ⟨(.some 44), (.bsl 1 [(.c (.d (.int .i64 0))), (.c (.d (.int .i64 0)))]), .none⟩,
   ⟨(.some 45), (.callp 14 [(.t 43), (.t 44)]), .none⟩,
   ⟨(.some 9), (.alloc [(.d (.int .i64 0)), (.d (.flt .f64 0)), (.d (.str (bs []))), (.full [])]), .none⟩,
   ⟨(.some 10), (.alloc [(.d (.int .i64 0)), (.d (.flt .f64 0)), (.d (.str (bs []))), (.full [])]), .none⟩,
   ⟨.none, (.store 4 (.t 9) (.t 42)), .none⟩,
   ⟨.none, (.store 4 (.t 10) (.t 45)), .none⟩])
 c6_8))
abbrev c6_6 : PCode :=
 (.keep [2, 3, 4] (.seq (.region [⟨(.some 37), (.load .true 3 (.t 3) .false), .none⟩,
   ⟨(.some 38), (.callp 27 [(.t 37), (.c (.d (.int .i64 3))), (.c (.full []))]), .none⟩,
   ⟨(.some 39), (.load .true 3 (.t 4) .false), .none⟩,
   ⟨(.some 40), (.callp 27 [(.t 39), (.c (.d (.int .i64 3))), (.c (.full []))]), .none⟩,
   ⟨(.some 7), (.alloc [(.d (.int .u8 0)), (.d (.int .i64 0)), (.full []), (.full [])]), .none⟩,
   ⟨(.some 8), (.alloc [(.d (.int .u8 0)), (.d (.int .i64 0)), (.full []), (.full [])]), .none⟩,
   ⟨.none, (.store 4 (.t 7) (.t 38)), .none⟩,
   ⟨.none, (.store 4 (.t 8) (.t 40)), .none⟩])
 c6_7))
abbrev c6_3 : PCode :=
 (.keep [2, 3, 4] (.seq (.seq (.region [⟨(.some 24), (.load .true 3 (.t 3) .false), .none⟩,
   ⟨(.some 25), (.call0 13 [(.t 24), (.c (.d (.int .i64 3)))]), .none⟩,
   ⟨(.some 26), (.not (.t 25)), .none⟩,
   ⟨(.some 27), (.mov (.t 26)), .none⟩,
   ⟨(.some 28), (.load .true 3 (.t 4) .false), (.some (27, .false))⟩,
   ⟨(.some 29), (.call0 13 [(.t 28), (.c (.d (.int .i64 3)))]), (.some (27, .false))⟩,
   ⟨(.some 30), (.not (.t 29)), (.some (27, .false))⟩,
   ⟨(.some 31), (.pick (.t 27) (.c (.d (.bool .true))) (.t 30)), .none⟩,
   ⟨(.some 32), (.mov (.t 31)), .none⟩,
   ⟨(.some 33), (.mov (.t 2)), (.some (32, .false))⟩,
   ⟨(.some 34), (.len (.t 33)), (.some (32, .false))⟩,
   ⟨(.some 35), (.bin .gtr (.t 34) (.c (.d (.int .i64 40)))), (.some (32, .false))⟩,
   ⟨(.some 36), (.pick (.t 32) (.c (.d (.bool .true))) (.t 35)), .none⟩])
 c6_4)
 c6_6))
abbrev c6_0 : PCode :=
 (.keep [2, 3, 4] (.seq (.seq (.region [⟨(.some 22), (.call0 12 []), .none⟩,
   ⟨(.some 23), (.not (.t 22)), .none⟩])
 c6_1)
 c6_3))
def c6 : PFun := ⟨
 (.seq (.region [⟨(.some 3), (.box 3 (.t 0)), .none⟩,
   ⟨(.some 4), (.box 3 (.t 1)), .none⟩,
   ⟨(.some 6), (.mov (.c (.d (.bool .false)))), .none⟩])
 c6_0),
 3, 122, [(.tmp 6)]⟩

theorem e6 : entered Try.prog 6 = true := by kernel_rfl
theorem k6 : compFun Try.prog (fun i => if i = 5 then 1 else if i = 6 then 1 else if i = 13 then 1 else if i = 16 then 2 else 0) 6 = some c6.er := by kernel_rfl


theorem typ_le3 {x : Nd} (hx : x.fit) : WT 3 (Nd.typ 3 x []) ∧ (Nd.typ 3 x []).fit ∧ posd 20 (Nd.typ 3 x []) ∧ cost 20 (Nd.typ 3 x []) < 2 ^ 30 :=
  have hw : WT 3 (Nd.typ 3 x []) := .of_typ (by decide) hx
  ⟨hw, hw.fit, hw.posd 20, Nat.lt_of_le_of_lt (hw.cost 20) (by decide)⟩
/-- What is known of a built value. -/
structure Bt (l : List Int) (T : KT) : Prop where
  fit : (buildV l T).fit
  is : VT.is 3 T (buildV l T) = true
  cnt : (buildV l T).count < 2 ^ 30
  flat : (flatR 3 T (buildV l T)).length < 2 ^ 30
theorem bt {l : List Int} (hr : ∀ x ∈ l, -9223372036854775808 ≤ x ∧ x ≤ 9223372036854775807) {T : KT} (hW : WT 3 T) (hc : cost 20 T < 2 ^ 30) : Bt l T := by
  have h1 : VT.is 3 T (buildV l T) = true := by rw [← is_deep hW 20 _ (by decide)]; exact buildV_is hr (by decide) hW
  exact ⟨(buildM_few hr hW 20 0 0).fit (by decide), h1, buildV_count l hc, Nat.lt_of_le_of_lt (flatR_len hW h1) (buildV_count l hc)⟩
theorem own3 {e : Nat} {T : KT} (hW : WT e T) (he : e ≤ 20) {v : VT} (hv : v.fit) (hi : VT.is e T v = true) (hc : v.count < 2 ^ 40) (M : Nat) : CL (PCalls Try.prog GG) 23 [T.av, v.av, .d (.int .i64 M)] [] (fun a : AV => a) (fun a => [.vec a (rowsI ((flatR e T v).take M)) 1]) := by
  have := flatOwn M T v hW.fit hv (fun _ => hc) (fun _ => by
    rw [walk_flat M hW 20 v [] he hi (Nat.zero_le _), List.length_take]
    omega)
  rw [flatM_eq M hW he hi, show (max (M : Int) 0).toNat = M by omega] at this
  exact this
theorem next_nil (a : Nat) : nextN [] a = 0 := rfl
theorem next_two (a : Nat) : nextN [0, 0] a = 0 := by
  have : a % 2 = 0 ∨ a % 2 = 1 := by omega
  unfold nextN
  rcases this with h | h <;> simp [h]
theorem C6 (x y : Nd) (hx : x.fit) (hy : y.fit) (l : List Int) (hr : ∀ x ∈ l, -9223372036854775808 ≤ x ∧ x ≤ 9223372036854775807) :
    Pure (PCalls Try.prog GG) 6 [x.av, y.av, .d (i64s l)] (b2 true) := by
  obtain ⟨tw, t1, t2, t3⟩ := typ_le3 hx
  obtain ⟨uw, u1, u2, u3⟩ := typ_le3 hy
  have hT := C27 3 x [] (by decide) hx (by decide)
  have hU := C27 3 y [] (by decide) hy (by decide)
  intro st; refine pcalls_of k6 e6 (of_decide_eq_true rfl) ?_; dsimp only [c6]; refine pstartL ?_; intro t hL; generalize hQ : pfin _ _ = Q
  (refine gor hL ?_; (repeat (clear hL; intro t hL; refine gor hL ?_))); refine po_boxA hL ?_; clear hL; intro p3 t hL
  (refine gor hL ?_; (repeat (clear hL; intro t hL; refine gor hL ?_))); refine po_boxA hL ?_; clear hL; intro p4 t hL
  refine gor hL ?_; (repeat (clear hL; intro t hL; refine gor hL ?_))
  refine po_c0 (C12) ?_
  refine gor hL ?_; (repeat (clear hL; intro t hL; refine gor hL ?_))
  refine po_c0 (C13 x 3 hx (by decide)) ?_
  refine gor hL ?_; (repeat (clear hL; intro t hL; refine gor hL ?_))
  ((with_reducible apply po_g); (· exact gwt); (· (intro hw; refine does_call0 ?_ (C13 y 3 hy (by decide)); exact gargs hw)))
  refine gor hL ?_; (repeat (clear hL; intro t hL; refine gor hL ?_))
  refine pcond_b rfl (fun hq => ?_) (fun hq => ?_)
  · refine gor hL ?_; (repeat (clear hL; intro t hL; refine gor hL ?_))
    rw [← hQ]
    exact pfin_pure rfl hL.le
  simp only [Bool.or_eq_false_iff, decide_eq_false_iff_not] at hq
  have hl : l.length < 2 ^ 40 := by omega
  generalize Nd.typ 3 x [] = T at *
  generalize Nd.typ 3 y [] = U at *
  have b0 := bt (l := []) (fun _ h => by cases h) tw t3
  have bA := bt hr tw t3
  have bB := bt hr uw u3
  have hV0 := C14 [] (by decide) (fun _ h => by cases h) T t1 t2 (by omega)
  have hV00 := C14 [0, 0] (by decide) (by decide) T t1 t2 (by omega)
  have hVA := C14 l hl hr T t1 t2 (by omega)
  have hVB := C14 l hl hr U u1 u2 (by omega)
  have he : buildV [] T = buildV [0, 0] T := by
    unfold buildV
    rw [build_deep _ tw 20 0 0 (by decide), build_deep _ tw 20 0 0 (by decide)]
    exact (build_noughts next_nil next_two tw 0 0 0).1
  have hz : ∀ n ∈ flatR 3 T (buildV [] T), n = 0 := by
    unfold buildV
    rw [build_deep _ tw 20 0 0 (by decide)]
    exact flat_noughts next_nil tw 0 0
  rw [← he] at hV00
  have hF0 := own3 tw (by decide) b0.fit b0.is (by have := b0.cnt; omega) 1000
  have hSm := C18 (buildV [] T) (buildV [] T) b0.fit
  rw [VT.same_refl] at hSm
  have hFA := own3 tw (by decide) bA.fit bA.is (by have := bA.cnt; omega) 1000
  have hFB := own3 uw (by decide) bB.fit bB.is (by have := bB.cnt; omega) 1000
  have rw4 : WT 4 (recT2 T U) := tw.rec2 uw (.inl rfl)
  have hbi := both_is bA.is bB.is
  have hbf := both_fit bA.fit bB.fit
  have hbc := both_count (a := buildV l T) (b := buildV l U)
  have hFR := own3 rw4 (by decide) hbf hbi (by have := bA.cnt; have := bB.cnt; omega) 3000
  rw [both_flat] at hFR
  have hCh := C22 _ _ rw4.fit hbf
  rw [VT.checkE, is_deep rw4 20 _ (by decide), hbi] at hCh
  have hlA := bA.flat
  have hlB := bB.flat
  generalize buildV [] T = V0 at *
  generalize buildV l T = A at *
  generalize buildV l U = B at *
  generalize flatR 3 T V0 = F0 at *
  generalize flatR 3 T A = FA at *
  generalize flatR 3 U B = FB at *
  simp only [VT.av_eq, KT.av_eq, KT.row_eq, KT.cs, VT.row_eq, VT.cs, if_true, recT2, both, VT.pj, KT.pj, List.map_cons, List.map_nil] at hT hU hV0 hV00 hVA hVB hF0 hFA hFB hFR hSm hCh
  refine gor hL ?_; (repeat (clear hL; intro t hL; refine gor hL ?_))
  refine po_cp (hT) ?_
  refine gor hL ?_; (repeat (clear hL; intro t hL; refine gor hL ?_))
  refine po_cp (hU) ?_
  refine gor hL ?_; (repeat (clear hL; intro t hL; refine gor hL ?_))
  (refine gor hL ?_; (repeat (clear hL; intro t hL; refine gor hL ?_))); (with_reducible refine po_allocL hL rfl ?_); clear hL; intro p7 t hL
  refine gor hL ?_; (repeat (clear hL; intro t hL; refine gor hL ?_))
  (refine gor hL ?_; (repeat (clear hL; intro t hL; refine gor hL ?_))); (with_reducible refine po_allocL hL rfl ?_); clear hL; intro p8 t hL
  refine gor hL ?_; (repeat (clear hL; intro t hL; refine gor hL ?_))
  refine po_cp (hV0) ?_
  refine gor hL ?_; (repeat (clear hL; intro t hL; refine gor hL ?_))
  refine po_cp (hV00) ?_
  refine gor hL ?_; (repeat (clear hL; intro t hL; refine gor hL ?_))
  (refine gor hL ?_; (repeat (clear hL; intro t hL; refine gor hL ?_))); (with_reducible refine po_allocL hL rfl ?_); clear hL; intro p9 t hL
  refine gor hL ?_; (repeat (clear hL; intro t hL; refine gor hL ?_))
  (refine gor hL ?_; (repeat (clear hL; intro t hL; refine gor hL ?_))); (with_reducible refine po_allocL hL rfl ?_); clear hL; intro p10 t hL
  refine gor hL ?_; (repeat (clear hL; intro t hL; refine gor hL ?_))
  refine po_callK hL hF0 ?_
  clear hL; intro a0 t hL
  have f0 := hL.vk a0
  obtain ⟨f0_r, f0_w, f0_w1, f0_c, f0_s, f0_d⟩ := id f0
  refine gor hL ?_; (repeat (clear hL; intro t hL; refine gor hL ?_))
  have hl0 : (F0.take 1000).length ≤ 1000 := by rw [List.length_take]; omega
  (apply prangeK hL ((F0.take 1000).length) (by omega) (fun _ => True)); (· exact trimA); (· exact fun _ => rfl)
  · trivial
  · intro t hL _
    refine gor hL ?_; (repeat (clear hL; intro t hL; refine gor hL ?_))
    refine po_cp (hVA) ?_
    refine gor hL ?_; (repeat (clear hL; intro t hL; refine gor hL ?_))
    refine po_cp (hVB) ?_
    refine gor hL ?_; (repeat (clear hL; intro t hL; refine gor hL ?_))
    (refine gor hL ?_; (repeat (clear hL; intro t hL; refine gor hL ?_))); (with_reducible refine po_allocL hL rfl ?_); clear hL; intro p13 t hL
    refine gor hL ?_; (repeat (clear hL; intro t hL; refine gor hL ?_))
    (refine gor hL ?_; (repeat (clear hL; intro t hL; refine gor hL ?_))); (with_reducible refine po_allocL hL rfl ?_); clear hL; intro p14 t hL
    refine gor hL ?_; (repeat (clear hL; intro t hL; refine gor hL ?_))
    (refine gor hL ?_; (repeat (clear hL; intro t hL; refine gor hL ?_))); (with_reducible refine po_allocL hL rfl ?_); clear hL; intro p15 t hL
    refine gor hL ?_; (repeat (clear hL; intro t hL; refine gor hL ?_))
    (refine gor hL ?_; (repeat (clear hL; intro t hL; refine gor hL ?_))); (with_reducible refine po_allocL hL rfl ?_); clear hL; intro p16 t hL
    refine gor hL ?_; (repeat (clear hL; intro t hL; refine gor hL ?_))
    refine po_loadSt (H := [.box p7 [.d (.int .u8 T.kind), .d (.int .i64 T.most), .d (.sl (T.names.map fun s => [.str s])), .d (.sl (T.of.map KT.row))], .box p13 [.d (.int .i64 A.n), .d (.flt .f64 A.f), .d (.str A.s), .d (.sl (A.of.map VT.row))], .box p8 [.d (.int .u8 U.kind), .d (.int .i64 U.most), .d (.sl (U.names.map fun s => [.str s])), .d (.sl (U.of.map KT.row))], .box p14 [.d (.int .i64 B.n), .d (.flt .f64 B.f), .d (.str B.s), .d (.sl (B.of.map VT.row))], .box p15 [.d (.int .u8 6), .d (.int .i64 0), .full [[.str (bs [97])], [.str (bs [98])]], .full [[.int .u8 T.kind, .int .i64 T.most, .sl (T.names.map fun s => [.str s]), .sl (T.of.map KT.row)], [.int .u8 U.kind, .int .i64 U.most, .sl (U.names.map fun s => [.str s]), .sl (U.of.map KT.row)]]], .box p16 [.d (.int .i64 0), .d (.flt .f64 0), .d (.str (bs [])), .full [[.int .i64 A.n, .flt .f64 A.f, .str A.s, .sl (A.of.map VT.row)], [.int .i64 B.n, .flt .f64 B.f, .str B.s, .sl (B.of.map VT.row)]]]]) (Stb.start _ (fun _ => .undef) t) hL rfl rfl (by repeat (first | exact Rem.head | apply Rem.tail)) (by (repeat (first | (with_reducible exact Pick.nil) | ((with_reducible apply Pick.cons); · (repeat (first | exact Rem.head | apply Rem.tail)))))) rfl (fun hS => ?_)
    refine gor hL ?_; (repeat (clear hL; intro t hL; refine gor hL ?_))
    refine po_loadSt hS hL rfl rfl (by repeat (first | exact Rem.head | apply Rem.tail)) (by (repeat (first | (with_reducible exact Pick.nil) | ((with_reducible apply Pick.cons); · (repeat (first | exact Rem.head | apply Rem.tail)))))) rfl (fun hS => ?_)
    refine gor hL ?_; (repeat (clear hL; intro t hL; refine gor hL ?_))
    refine po_callStA hS hL hFA ?_
    clear hL; intro aP t hL hS
    have faP := hL.vk aP
    obtain ⟨faP_r, faP_w, faP_w1, faP_c, faP_s, faP_d⟩ := id faP
    refine gor hL ?_; (repeat (clear hL; intro t hL; refine gor hL ?_))
    refine po_loadSt hS hL rfl rfl (by repeat (first | exact Rem.head | apply Rem.tail)) (by (repeat (first | (with_reducible exact Pick.nil) | ((with_reducible apply Pick.cons); · (repeat (first | exact Rem.head | apply Rem.tail)))))) rfl (fun hS => ?_)
    refine gor hL ?_; (repeat (clear hL; intro t hL; refine gor hL ?_))
    refine po_loadSt hS hL rfl rfl (by repeat (first | exact Rem.head | apply Rem.tail)) (by (repeat (first | (with_reducible exact Pick.nil) | ((with_reducible apply Pick.cons); · (repeat (first | exact Rem.head | apply Rem.tail)))))) rfl (fun hS => ?_)
    refine gor hL ?_; (repeat (clear hL; intro t hL; refine gor hL ?_))
    refine po_callStA hS hL hFB ?_
    clear hL; intro aQ t hL hS
    have faQ := hL.vk aQ
    obtain ⟨faQ_r, faQ_w, faQ_w1, faQ_c, faQ_s, faQ_d⟩ := id faQ
    refine gor hL ?_; (repeat (clear hL; intro t hL; refine gor hL ?_))
    refine po_loadSt hS hL rfl rfl (by repeat (first | exact Rem.head | apply Rem.tail)) (by (repeat (first | (with_reducible exact Pick.nil) | ((with_reducible apply Pick.cons); · (repeat (first | exact Rem.head | apply Rem.tail)))))) rfl (fun hS => ?_)
    refine gor hL ?_; (repeat (clear hL; intro t hL; refine gor hL ?_))
    refine po_loadSt hS hL rfl rfl (by repeat (first | exact Rem.head | apply Rem.tail)) (by (repeat (first | (with_reducible exact Pick.nil) | ((with_reducible apply Pick.cons); · (repeat (first | exact Rem.head | apply Rem.tail)))))) rfl (fun hS => ?_)
    refine gor hL ?_; (repeat (clear hL; intro t hL; refine gor hL ?_))
    refine po_callStA hS hL hFR ?_
    clear hL; intro aR t hL hS
    have faR := hL.vk aR
    obtain ⟨faR_r, faR_w, faR_w1, faR_c, faR_s, faR_d⟩ := id faR
    refine gor hL ?_; (repeat (clear hL; intro t hL; refine gor hL ?_))
    by_cases hp1 : (((FA.take 1000).length : Int) ≥ 1000)
    · refine gnm ?_; rw [decide_eq_true hp1]
      refine gor hL ?_; (repeat (clear hL; intro t hL; refine gor hL ?_))
      rw [← hQ]
      exact pfin_pure rfl hL.le
    refine gnm ?_; rw [decide_eq_false hp1]
    refine gor hL ?_; (repeat (clear hL; intro t hL; refine gor hL ?_))
    by_cases hp2 : (((FB.take 1000).length : Int) ≥ 1000)
    · refine gnm ?_; rw [decide_eq_true hp2]
      refine gor hL ?_; (repeat (clear hL; intro t hL; refine gor hL ?_))
      rw [← hQ]
      exact pfin_pure rfl hL.le
    refine gnm ?_; rw [decide_eq_false hp2]
    have eA : FA.take 1000 = FA := List.take_of_length_le (by rw [List.length_take] at hp1; omega)
    have eB : FB.take 1000 = FB := List.take_of_length_le (by rw [List.length_take] at hp2; omega)
    rw [eA] at hL hp1 faP faP_r faP_w faP_w1 faP_d
    rw [eB] at hL hp2 faQ faQ_r faQ_w faQ_w1 faQ_d
    have eR : (FA ++ FB).take 3000 = FA ++ FB := List.take_of_length_le (by rw [List.length_append]; omega)
    rw [eR] at hL faR faR_r faR_w faR_w1 faR_d
    refine gor hL ?_; (repeat (clear hL; intro t hL; refine gor hL ?_))
    have e96 : (((FA ++ FB).length : Int) != IntKind.i64.wrap ((FA.length : Int) + (FB.length : Int))) = false := by
      rw [IntWalk.i64_in _ (by omega), List.length_append]; simp
    refine gnm ?_; rw [e96]
    refine gor hL ?_; (repeat (clear hL; intro t hL; refine gor hL ?_))
    refine po_c0 (hCh) ?_
    refine gor hL ?_; (repeat (clear hL; intro t hL; refine gor hL ?_))
    refine po_appA (hn := rowsI_len _) hL (rowsI_len _) ?_ ?_
    · simp; omega
    clear hL; intro v1 t f1 hL
    rw [rowsI_app2] at hL f1
    obtain ⟨f1_r, f1_w, f1_w1, f1_c, f1_s, f1_d⟩ := id f1
    simp only [List.append_eq, List.nil_append, List.cons_append] at hL
    have hlR : (FA ++ FB).length = FA.length + FB.length := List.length_append
    refine gor hL ?_; (repeat (clear hL; intro t hL; refine gor hL ?_))
    (apply prangeK hL ((FA ++ FB).length) (by omega) (fun _ => True)); (· exact trimA); (· exact fun _ => rfl)
    · trivial
    · intro t hL _
      refine gor hL ?_; (repeat (clear hL; intro t hL; refine gor hL ?_))
      refine po_c0 (hSm) ?_
      refine gor hL ?_; (repeat (clear hL; intro t hL; refine gor hL ?_))
      rw [← hQ]
      exact pfin_pure rfl hL.le
    · intro k hk t hL _
      obtain ⟨z, hz', hzm⟩ := elem_at hk
      refine pblock ?_
      refine gor hL ?_; (repeat (clear hL; intro t hL; refine gor hL ?_))
      first | exact ⟨hL.pk, trivial⟩ | exact ⟨hL.pk, trivial, tr2⟩
  · intro k hk t hL _
    obtain ⟨z, hz', hzm⟩ := elem_at hk
    have hz0 : z = 0 := hz z (List.mem_of_mem_take hzm)
    subst hz0
    refine pblock ?_
    refine gor hL ?_; (repeat (clear hL; intro t hL; refine gor hL ?_))
    first | exact ⟨hL.pk, trivial⟩ | exact ⟨hL.pk, trivial, tr2⟩
end Go.Pv
