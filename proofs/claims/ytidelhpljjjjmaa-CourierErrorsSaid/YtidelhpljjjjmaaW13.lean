/- Functions of the program, by value. No condition. -/
import Derived.Test.YtidelhpljjjjmaaW12
namespace Go.Pv
open Go.Proofs
set_option maxRecDepth 100000
set_option maxHeartbeats 8000000
/-- prompter/prompterlaw09.CourierErrors -/
abbrev c9_2 : PCode :=
 (.seq (.region [⟨(.some 12), (.mov (.c (.d (.bool .false)))), .none⟩])
 .ret)
abbrev c9_1 : PCode :=
 (.cond (.t 27)
  c9_2
  .skip)
abbrev c9_5 : PCode :=
 (.seq (.region [⟨(.some 12), (.mov (.c (.d (.bool .true)))), .none⟩])
 .ret)
abbrev c9_4 : PCode :=
 (.cond (.t 45)
  c9_5
  .skip)
abbrev c9_17 : PCode :=
 (.seq (.region [⟨(.some 12), (.mov (.c (.d (.bool .false)))), .none⟩])
 .ret)
abbrev c9_16 : PCode :=
 (.cond (.t 91)
  c9_17
  .skip)
abbrev c9_15 : PCode :=
 (.keep [5, 13, 15, 16, 17, 19, 23, 24] (.seq (.region [⟨(.some 83), (.mov (.t 24)), .none⟩,
   ⟨(.some 84), (.bin .neq (.t 83) (.c (.d (.int .i64 0)))), .none⟩,
   ⟨(.some 85), (.mov (.t 84)), .none⟩,
   ⟨(.some 86), (.mov (.t 23)), (.some (85, .false))⟩,
   ⟨(.some 87), (.strOf (.t 86)), (.some (85, .false))⟩,
   ⟨(.some 88), (.mov (.t 5)), (.some (85, .false))⟩,
   ⟨(.some 89), (.strOf (.t 88)), (.some (85, .false))⟩,
   ⟨(.some 90), (.bin .neq (.t 87) (.t 89)), (.some (85, .false))⟩,
   ⟨(.some 91), (.pick (.t 85) (.c (.d (.bool .true))) (.t 90)), .none⟩])
 c9_16))
abbrev c9_14 : PCode :=
 (.seq (.region [⟨(.some 78), (.load .true 4 (.t 20) .false), .none⟩,
   ⟨(.some 79), (.load .true 4 (.t 21) .false), .none⟩,
   ⟨(.some 80), (.call0 29 [(.t 78), (.t 79)]), .none⟩,
   ⟨(.some 77), (.mov (.t 80)), .none⟩,
   ⟨(.some 81), (.ext (.t 77) 0), .none⟩,
   ⟨(.some 82), (.ext (.t 77) 1), .none⟩,
   ⟨(.some 23), (.mov (.t 81)), .none⟩,
   ⟨(.some 24), (.mov (.t 82)), .none⟩])
 c9_15)
abbrev c9_13 : PCode :=
 (.cond (.t 76)
  c9_14
  .skip)
abbrev c9_19 : PCode :=
 (.keep [16, 17, 19, 25] (.seq (.region [⟨(.some 96), (.mov (.t 25)), .none⟩,
   ⟨(.some 97), (.mov (.t 96)), .none⟩,
   ⟨(.some 98), (.mov (.t 17)), (.some (97, .false))⟩,
   ⟨(.some 99), (.bin .eql (.t 98) (.c (.d (.int .i64 17)))), (.some (97, .false))⟩,
   ⟨(.some 100), (.pick (.t 97) (.c (.d (.bool .true))) (.t 99)), .none⟩,
   ⟨(.some 101), (.mov (.t 100)), .none⟩,
   ⟨(.some 102), (.mov (.t 17)), (.some (101, .true))⟩,
   ⟨(.some 103), (.bin .eql (.t 102) (.c (.d (.int .i64 0)))), (.some (101, .true))⟩,
   ⟨(.some 104), (.mov (.t 103)), (.some (101, .true))⟩,
   ⟨(.some 105), (.mov (.t 16)), (.some (104, .false))⟩,
   ⟨(.some 106), (.len (.t 105)), (.some (104, .false))⟩,
   ⟨(.some 107), (.bin .eql (.t 106) (.c (.d (.int .i64 0)))), (.some (104, .false))⟩,
   ⟨(.some 108), (.pick (.t 104) (.c (.d (.bool .true))) (.t 107)), (.some (101, .true))⟩,
   ⟨(.some 109), (.pick (.t 101) (.t 108) (.c (.d (.bool .false)))), .none⟩,
   ⟨(.some 110), (.mov (.t 109)), .none⟩,
   ⟨(.some 111), (.mov (.t 25)), (.some (110, .true))⟩,
   ⟨(.some 112), (.not (.t 111)), (.some (110, .true))⟩,
   ⟨(.some 113), (.mov (.t 112)), (.some (110, .true))⟩,
   ⟨(.some 114), (.mov (.t 17)), (.some (113, .false))⟩,
   ⟨(.some 115), (.bin .neq (.t 114) (.c (.d (.int .i64 17)))), (.some (113, .false))⟩,
   ⟨(.some 116), (.pick (.t 113) (.c (.d (.bool .true))) (.t 115)), (.some (110, .true))⟩,
   ⟨(.some 117), (.pick (.t 110) (.t 116) (.c (.d (.bool .false)))), .none⟩,
   ⟨(.some 118), (.mov (.t 117)), .none⟩,
   ⟨(.some 119), (.mov (.t 19)), (.some (118, .true))⟩,
   ⟨(.some 120), (.bin .eql (.t 119) (.c (.d (.int .i64 6)))), (.some (118, .true))⟩,
   ⟨(.some 121), (.pick (.t 118) (.t 120) (.c (.d (.bool .false)))), .none⟩,
   ⟨(.some 12), (.mov (.t 121)), .none⟩])
 .ret))
abbrev c9_18 : PCode :=
 (.keep [13, 15, 16, 17, 19] (.seq (.region [⟨(.some 92), (.load .true 4 (.t 13) .false), .none⟩,
   ⟨(.some 93), (.load .true 4 (.t 15) .false), .none⟩,
   ⟨(.some 94), (.call0 22 [(.t 92), (.t 93)]), .none⟩,
   ⟨(.some 95), (.bin .eql (.t 94) (.c (.d (.int .i64 0)))), .none⟩,
   ⟨(.some 25), (.mov (.t 95)), .none⟩])
 c9_19))
abbrev c9_12 : PCode :=
 (.keep [5, 13, 15, 16, 17, 19, 20, 21, 22] (.seq (.seq (.region [⟨(.some 75), (.mov (.t 22)), .none⟩,
   ⟨(.some 76), (.bin .eql (.t 75) (.c (.d (.int .i64 0)))), .none⟩])
 c9_13)
 c9_18))
abbrev c9_11 : PCode :=
 (.keep [5, 13, 15, 16, 17, 19, 20] (.seq (.region [⟨(.some 70), (.load .true 4 (.t 20) .false), .none⟩,
   ⟨(.some 71), (.mov (.t 5)), .none⟩,
   ⟨(.some 72), (.call0 30 [(.t 70), (.t 71)]), .none⟩,
   ⟨(.some 69), (.mov (.t 72)), .none⟩,
   ⟨(.some 73), (.ext (.t 69) 0), .none⟩,
   ⟨(.some 74), (.ext (.t 69) 1), .none⟩,
   ⟨(.some 21), (.alloc [(.d (.int .i64 0)), (.d (.flt .f64 0)), (.d (.str (bs []))), (.full [])]), .none⟩,
   ⟨.none, (.store 4 (.t 21) (.t 73)), .none⟩,
   ⟨(.some 22), (.mov (.t 74)), .none⟩])
 c9_12))
abbrev c9_10 : PCode :=
 (.keep [3, 4, 5, 13, 15, 16, 17, 19] (.seq (.region [⟨(.some 65), (.mov (.t 3)), .none⟩,
   ⟨(.some 66), (.bin .rem (.t 65) (.c (.d (.int .u8 14)))), .none⟩,
   ⟨(.some 67), (.mov (.t 4)), .none⟩,
   ⟨(.some 68), (.bld [(.d (.int .u8 0)), (.d (.int .i64 0)), (.full []), (.full [])] [(0, (1, (.t 66))), (1, (1, (.t 67)))]), .none⟩,
   ⟨(.some 20), (.alloc [(.d (.int .u8 0)), (.d (.int .i64 0)), (.full []), (.full [])]), .none⟩,
   ⟨.none, (.store 4 (.t 20) (.t 68)), .none⟩])
 c9_11))
abbrev c9_9 : PCode :=
 (.keep [3, 4, 5, 13, 15, 16, 17] (.seq (.region [⟨(.some 60), (.load .true 4 (.t 13) .false), .none⟩,
   ⟨(.some 61), (.make 1 1 [(.d (.int .u8 0))] (.c (.d (.int .i64 4001))) (.c (.d (.int .i64 4001)))), .none⟩,
   ⟨(.some 62), (.call0 30 [(.t 60), (.t 61)]), .none⟩,
   ⟨(.some 59), (.mov (.t 62)), .none⟩,
   ⟨(.some 63), (.ext (.t 59) 0), .none⟩,
   ⟨(.some 64), (.ext (.t 59) 1), .none⟩,
   ⟨(.some 18), (.alloc [(.d (.int .i64 0)), (.d (.flt .f64 0)), (.d (.str (bs []))), (.full [])]), .none⟩,
   ⟨.none, (.store 4 (.t 18) (.t 63)), .none⟩,
   ⟨(.some 19), (.mov (.t 64)), .none⟩])
 c9_10))
abbrev c9_8 : PCode :=
 (.keep [3, 4, 5, 13, 15] (.seq (.region [⟨(.some 54), (.load .true 4 (.t 13) .false), .none⟩,
   ⟨(.some 55), (.load .true 4 (.t 15) .false), .none⟩,
   ⟨(.some 56), (.call0 29 [(.t 54), (.t 55)]), .none⟩,
   ⟨(.some 53), (.mov (.t 56)), .none⟩,
   ⟨(.some 57), (.ext (.t 53) 0), .none⟩,
   ⟨(.some 58), (.ext (.t 53) 1), .none⟩,
   ⟨(.some 16), (.mov (.t 57)), .none⟩,
   ⟨(.some 17), (.mov (.t 58)), .none⟩])
 c9_9))
abbrev c9_7 : PCode :=
 (.keep [2, 3, 4, 5, 13, 14] (.seq (.region [⟨(.some 50), (.load .true 4 (.t 14) .false), .none⟩,
   ⟨(.some 51), (.mov (.t 2)), .none⟩,
   ⟨(.some 52), (.call0 14 [(.t 50), (.t 51)]), .none⟩,
   ⟨(.some 15), (.alloc [(.d (.int .i64 0)), (.d (.flt .f64 0)), (.d (.str (bs []))), (.full [])]), .none⟩,
   ⟨.none, (.store 4 (.t 15) (.t 52)), .none⟩])
 c9_8))
abbrev c9_6 : PCode :=
 (.keep [2, 3, 4, 5, 6, 7] (.seq (.region [⟨(.some 46), (.load .true 3 (.t 6) .false), .none⟩,
   ⟨(.some 47), (.callp 15 [(.t 46)]), .none⟩,
   ⟨(.some 48), (.load .true 3 (.t 7) .false), .none⟩,
   ⟨(.some 49), (.callp 15 [(.t 48)]), .none⟩,
   ⟨(.some 13), (.alloc [(.d (.int .u8 0)), (.d (.int .i64 0)), (.full []), (.full [])]), .none⟩,
   ⟨(.some 14), (.alloc [(.d (.int .u8 0)), (.d (.int .i64 0)), (.full []), (.full [])]), .none⟩,
   ⟨.none, (.store 4 (.t 13) (.t 47)), .none⟩,
   ⟨.none, (.store 4 (.t 14) (.t 49)), .none⟩])
 c9_7))
abbrev c9_3 : PCode :=
 (.keep [2, 3, 4, 5, 6, 7] (.seq (.seq (.region [⟨(.some 28), (.load .true 3 (.t 6) .false), .none⟩,
   ⟨(.some 29), (.call0 13 [(.t 28), (.c (.d (.int .i64 4)))]), .none⟩,
   ⟨(.some 30), (.not (.t 29)), .none⟩,
   ⟨(.some 31), (.mov (.t 30)), .none⟩,
   ⟨(.some 32), (.load .true 3 (.t 7) .false), (.some (31, .false))⟩,
   ⟨(.some 33), (.call0 13 [(.t 32), (.c (.d (.int .i64 4)))]), (.some (31, .false))⟩,
   ⟨(.some 34), (.not (.t 33)), (.some (31, .false))⟩,
   ⟨(.some 35), (.pick (.t 31) (.c (.d (.bool .true))) (.t 34)), .none⟩,
   ⟨(.some 36), (.mov (.t 35)), .none⟩,
   ⟨(.some 37), (.mov (.t 2)), (.some (36, .false))⟩,
   ⟨(.some 38), (.len (.t 37)), (.some (36, .false))⟩,
   ⟨(.some 39), (.bin .gtr (.t 38) (.c (.d (.int .i64 40)))), (.some (36, .false))⟩,
   ⟨(.some 40), (.pick (.t 36) (.c (.d (.bool .true))) (.t 39)), .none⟩,
   ⟨(.some 41), (.mov (.t 40)), .none⟩,
   ⟨(.some 42), (.mov (.t 5)), (.some (41, .false))⟩,
   ⟨(.some 43), (.len (.t 42)), (.some (41, .false))⟩,
   ⟨(.some 44), (.bin .gtr (.t 43) (.c (.d (.int .i64 100)))), (.some (41, .false))⟩,
   ⟨(.some 45), (.pick (.t 41) (.c (.d (.bool .true))) (.t 44)), .none⟩])
 c9_4)
 c9_6))
abbrev c9_0 : PCode :=
 (.keep [2, 3, 4, 5, 6, 7] (.seq (.seq (.region [⟨(.some 26), (.call0 28 []), .none⟩,
   ⟨(.some 27), (.not (.t 26)), .none⟩])
 c9_1)
 c9_3))
def c9 : PFun := ⟨
 (.seq (.region [⟨(.some 6), (.box 3 (.t 0)), .none⟩,
   ⟨(.some 7), (.box 3 (.t 1)), .none⟩,
   ⟨(.some 12), (.mov (.c (.d (.bool .false)))), .none⟩])
 c9_0),
 6, 122, [(.tmp 12)]⟩

theorem e9 : entered Try.prog 9 = true := by kernel_rfl
theorem k9 : compFun Try.prog (fun i => if i = 5 then 1 else 0) 9 = some c9.er := by kernel_rfl


theorem endN_0 {l : List Int} {s : RS} (h : endN l s = 0) : s.e = 0 ∧ ¬ s.p < l.length := by
  unfold endN at h
  split at h
  · cases h
  · rename_i h2
    exact ⟨h, fun h3 => h2 ⟨h, h3⟩⟩
theorem odd_is {k m : Int} {v : VT} (h : VT.is 1 (.mk k m [] []) v = true) (hk : k = 0 ∨ k = 1 ∨ k = 2 ∨ k = 3 ∨ k = 4 ∨ k = 6) : VT.is 20 (.mk k m [] []) v = true := by
  rcases hk with rfl | rfl | rfl | rfl | rfl | rfl
  · rw [is0] at h ⊢; exact h
  · rw [is1] at h ⊢; exact h
  · rw [is2] at h ⊢; exact h
  · rw [is3] at h ⊢; exact h
  · rw [is4] at h ⊢; exact h
  · rw [is6] at h ⊢
    simp only [pvq] at h ⊢
    exact ⟨h.1, by simp [allZip]⟩
theorem odd_kind {l : List Int} (hb : bytesL l) {k m : Int} (hk : 0 ≤ k ∧ k ≤ 255) (he : (takeM l 1 (.mk k m [] []) ⟨0, 0⟩).2.e = 0) : k = 0 ∨ k = 1 ∨ k = 2 ∨ k = 3 ∨ k = 4 ∨ k = 6 := by
  have : k = 0 ∨ k = 1 ∨ k = 2 ∨ k = 3 ∨ k = 4 ∨ k = 6 ∨ k = 5 ∨ k = 7 ∨ k = 8 ∨ 9 ≤ k := by omega
  rcases this with h | h | h | h | h | h | rfl | rfl | rfl | hk9
  · exact .inl h
  · exact .inr (.inl h)
  · exact .inr (.inr (.inl h))
  · exact .inr (.inr (.inr (.inl h)))
  · exact .inr (.inr (.inr (.inr (.inl h))))
  · exact .inr (.inr (.inr (.inr (.inr h))))
  · exfalso
    rw [show takeM l 1 (.mk 5 m [] []) ⟨0, 0⟩ = ((.mk 0 0 (bs []) (seqT (takeM l 0 (.mk 0 0 [] [])) (rWithin l ⟨0, 0⟩ m).1.toNat [] (rFail (rWithin l ⟨0, 0⟩ m).2 5)).1), (seqT (takeM l 0 (.mk 0 0 [] [])) (rWithin l ⟨0, 0⟩ m).1.toNat [] (rFail (rWithin l ⟨0, 0⟩ m).2 5)).2) from rfl, seqT_err (rFail_e (by decide))] at he
    exact absurd he (rFail_e (by decide))
  · exfalso
    rw [show takeM l 1 (.mk 7 m [] []) ⟨0, 0⟩ = (VT.num (rWithin l ⟨0, 0⟩ (0 - 1)).1, (rWithin l ⟨0, 0⟩ (0 - 1)).2) from rfl] at he
    have h1 := rWithin_le he
    have h2 := rWithin_in hb ⟨0, 0⟩ (0 - 1)
    omega
  · exfalso
    rw [show takeM l 1 (.mk 8 m [] []) ⟨0, 0⟩ = (if (rWithin l ⟨0, 0⟩ (0 - 1)).2.e = 0 then (.mk (rWithin l ⟨0, 0⟩ (0 - 1)).1 0 (bs []) [(takeM l 0 (.mk 0 0 [] []) (rWithin l ⟨0, 0⟩ (0 - 1)).2).1], (takeM l 0 (.mk 0 0 [] []) (rWithin l ⟨0, 0⟩ (0 - 1)).2).2) else (VT.zero, (rWithin l ⟨0, 0⟩ (0 - 1)).2)) from rfl] at he
    by_cases h3 : (rWithin l ⟨0, 0⟩ (0 - 1)).2.e = 0
    · have h1 := rWithin_le h3
      have h2 := rWithin_in hb ⟨0, 0⟩ (0 - 1)
      omega
    · rw [if_neg h3] at he
      exact absurd he h3
  · exfalso
    have h0 : ∀ {j : Int}, j < 9 → ¬ (KT.mk k m [] []).kind = j := fun h e => by
      have : k = _ := e
      omega
    rw [takeM, if_neg (fun h : ¬ (0 : Int) = 0 => h rfl), if_neg (h0 (by decide)), if_neg (h0 (by decide)), if_neg (h0 (by decide)), if_neg (h0 (by decide)), if_neg (h0 (by decide)), if_neg (h0 (by decide)), if_neg (h0 (by decide)), if_neg (h0 (by decide)), if_neg (h0 (by decide))] at he
    exact absurd he (rFail_e (by decide))
/-- A value of a type without parts, put. -/
theorem putOdd (pw : Nat) (k m : Int) (v : VT) (a : AV) (hv : v.fit) (his : VT.is 1 (.mk k m [] []) v = true) (hk : k = 0 ∨ k = 1 ∨ k = 2 ∨ k = 3 ∨ k = 4 ∨ k = 6) (hlen : (putR 1 (.mk k m [] []) v).length ≤ 4000) :
    CL (PCalls Try.prog GG) 49 [ptrAt pw, (KT.mk k m [] []).av, v.av] (wrF pw a []) (fun _ : AV => .tup []) (fun b => wrF pw b (putR 1 (.mk k m [] []) v)) := by
  have hvl := hv.len
  refine ⟨wr_sat _ _ _ _, ?_⟩
  rcases hk with rfl | rfl | rfl | rfl | rfl | rfl
  · rw [is0] at his
    simp only [pvq] at his
    have hz : v.of.length = 0 := by omega
    rw [put0 _ _ _ _ _ (by decide) hz] at hlen ⊢
    have h1 := fun b => wrWord pw b [] v.n (by omega) (by simp)
    simp only [wrF, tkq, List.nil_append] at h1 ⊢
    intro st t hL; refine pcalls_of k49 e49 (of_decide_eq_true rfl) ?_; dsimp only [c49]; generalize hQ : pfin _ _ = Q
    (refine gor hL ?_; (repeat (clear hL; intro t hL; refine gor hL ?_))); refine po_boxA hL ?_; clear hL; intro p4 t hL
    (refine gor hL ?_; (repeat (clear hL; intro t hL; refine gor hL ?_))); refine po_boxA hL ?_; clear hL; intro p5 t hL
    refine gor hL ?_; (repeat (clear hL; intro t hL; refine gor hL ?_)); (repeat (refine pseqk ?_; refine gor hL ?_; (repeat (clear hL; intro t hL; refine gor hL ?_))))
    refine gnm ?_; rw [IntWalk.u16_in v.n (by omega)]
    refine po_callK hL ((h1 _)) ?_; clear hL; intro b t hL; have fb := hL.vk b; obtain ⟨fb_r, fb_w, fb_w1, fb_c, fb_s, fb_d⟩ := id fb
    refine gor hL ?_; (repeat (clear hL; intro t hL; refine gor hL ?_)); (repeat (refine pseqk ?_; refine gor hL ?_; (repeat (clear hL; intro t hL; refine gor hL ?_))))
    rw [← hQ]
    exact pfinK b rfl (.inl rfl) hL
  · rw [is1] at his
    simp only [pvq] at his
    have hz : v.of.length = 0 := by omega
    rw [put0 _ _ _ _ _ (by decide) hz] at hlen ⊢
    have h1 := fun b => wrWord pw b [] v.n (by omega) (by simp)
    simp only [wrF, tkq, List.nil_append] at h1 ⊢
    intro st t hL; refine pcalls_of k49 e49 (of_decide_eq_true rfl) ?_; dsimp only [c49]; generalize hQ : pfin _ _ = Q
    (refine gor hL ?_; (repeat (clear hL; intro t hL; refine gor hL ?_))); refine po_boxA hL ?_; clear hL; intro p4 t hL
    (refine gor hL ?_; (repeat (clear hL; intro t hL; refine gor hL ?_))); refine po_boxA hL ?_; clear hL; intro p5 t hL
    refine gor hL ?_; (repeat (clear hL; intro t hL; refine gor hL ?_)); (repeat (refine pseqk ?_; refine gor hL ?_; (repeat (clear hL; intro t hL; refine gor hL ?_))))
    refine gnm ?_; rw [IntWalk.u16_in v.n (by omega)]
    refine po_callK hL ((h1 _)) ?_; clear hL; intro b t hL; have fb := hL.vk b; obtain ⟨fb_r, fb_w, fb_w1, fb_c, fb_s, fb_d⟩ := id fb
    refine gor hL ?_; (repeat (clear hL; intro t hL; refine gor hL ?_)); (repeat (refine pseqk ?_; refine gor hL ?_; (repeat (clear hL; intro t hL; refine gor hL ?_))))
    rw [← hQ]
    exact pfinK b rfl (.inl rfl) hL
  · rw [is2] at his
    simp only [pvq] at his
    rw [show putR 1 (.mk 2 m [] []) v = longB (v.n % 4294967296) from rfl] at hlen ⊢
    have h1 := fun b => wrLong pw b [] (v.n % 4294967296) (by omega) (by simp)
    simp only [wrF, tkq, List.nil_append] at h1 ⊢
    intro st t hL; refine pcalls_of k49 e49 (of_decide_eq_true rfl) ?_; dsimp only [c49]; generalize hQ : pfin _ _ = Q
    (refine gor hL ?_; (repeat (clear hL; intro t hL; refine gor hL ?_))); refine po_boxA hL ?_; clear hL; intro p4 t hL
    (refine gor hL ?_; (repeat (clear hL; intro t hL; refine gor hL ?_))); refine po_boxA hL ?_; clear hL; intro p5 t hL
    refine gor hL ?_; (repeat (clear hL; intro t hL; refine gor hL ?_)); (repeat (refine pseqk ?_; refine gor hL ?_; (repeat (clear hL; intro t hL; refine gor hL ?_))))
    refine gnm ?_; rw [IntKind.wrap_u32]
    refine po_callK hL ((h1 _)) ?_; clear hL; intro b t hL; have fb := hL.vk b; obtain ⟨fb_r, fb_w, fb_w1, fb_c, fb_s, fb_d⟩ := id fb
    refine gor hL ?_; (repeat (clear hL; intro t hL; refine gor hL ?_)); (repeat (refine pseqk ?_; refine gor hL ?_; (repeat (clear hL; intro t hL; refine gor hL ?_))))
    rw [← hQ]
    exact pfinK b rfl (.inl rfl) hL
  · rw [show putR 1 (.mk 3 m [] []) v = quadB (fbits v.f) from rfl] at hlen ⊢
    have h1 := fun b => wrQuad pw b [] (fbits v.f) (fbits_in _ hv.flt) (by simp)
    have hB := C60 v.f
    simp only [wrF, tkq, List.nil_append] at h1 ⊢
    intro st t hL; refine pcalls_of k49 e49 (of_decide_eq_true rfl) ?_; dsimp only [c49]; generalize hQ : pfin _ _ = Q
    (refine gor hL ?_; (repeat (clear hL; intro t hL; refine gor hL ?_))); refine po_boxA hL ?_; clear hL; intro p4 t hL
    (refine gor hL ?_; (repeat (clear hL; intro t hL; refine gor hL ?_))); refine po_boxA hL ?_; clear hL; intro p5 t hL
    refine gor hL ?_; (repeat (clear hL; intro t hL; refine gor hL ?_)); (repeat (refine pseqk ?_; refine gor hL ?_; (repeat (clear hL; intro t hL; refine gor hL ?_))))
    refine po_c0 (hB) ?_
    refine gor hL ?_; (repeat (clear hL; intro t hL; refine gor hL ?_))
    refine po_callK hL ((h1 _)) ?_; clear hL; intro b t hL; have fb := hL.vk b; obtain ⟨fb_r, fb_w, fb_w1, fb_c, fb_s, fb_d⟩ := id fb
    refine gor hL ?_; (repeat (clear hL; intro t hL; refine gor hL ?_)); (repeat (refine pseqk ?_; refine gor hL ?_; (repeat (clear hL; intro t hL; refine gor hL ?_))))
    rw [← hQ]
    exact pfinK b rfl (.inl rfl) hL
  · rw [show putR 1 (.mk 4 m [] []) v = textB v.s from rfl] at hlen ⊢
    have hsz : v.s.size ≤ 65535 := by
      unfold textB at hlen
      rw [List.length_append, List.length_append, strB_len] at hlen
      omega
    have h1 := fun b => wrText pw b [] v.s hsz (by simp)
    simp only [wrF, tkq, List.nil_append] at h1 ⊢
    intro st t hL; refine pcalls_of k49 e49 (of_decide_eq_true rfl) ?_; dsimp only [c49]; generalize hQ : pfin _ _ = Q
    (refine gor hL ?_; (repeat (clear hL; intro t hL; refine gor hL ?_))); refine po_boxA hL ?_; clear hL; intro p4 t hL
    (refine gor hL ?_; (repeat (clear hL; intro t hL; refine gor hL ?_))); refine po_boxA hL ?_; clear hL; intro p5 t hL
    refine gor hL ?_; (repeat (clear hL; intro t hL; refine gor hL ?_)); (repeat (refine pseqk ?_; refine gor hL ?_; (repeat (clear hL; intro t hL; refine gor hL ?_))))
    refine po_callK hL ((h1 _)) ?_; clear hL; intro b t hL; have fb := hL.vk b; obtain ⟨fb_r, fb_w, fb_w1, fb_c, fb_s, fb_d⟩ := id fb
    refine gor hL ?_; (repeat (clear hL; intro t hL; refine gor hL ?_)); (repeat (refine pseqk ?_; refine gor hL ?_; (repeat (clear hL; intro t hL; refine gor hL ?_))))
    rw [← hQ]
    exact pfinK b rfl (.inl rfl) hL
  · rw [is6] at his
    simp only [pvq] at his
    have hz : v.of.length = 0 := by simpa using his.1.2.2
    have hnil : v.of = [] := List.length_eq_zero_iff.1 hz
    rw [put6, hz]
    simp only [List.range_zero, List.flatMap_nil, List.nil_append]
    simp only [wrF, tkq, hnil]
    intro st t hL; refine pcalls_of k49 e49 (of_decide_eq_true rfl) ?_; dsimp only [c49]; generalize hQ : pfin _ _ = Q
    (refine gor hL ?_; (repeat (clear hL; intro t hL; refine gor hL ?_))); refine po_boxA hL ?_; clear hL; intro p4 t hL
    (refine gor hL ?_; (repeat (clear hL; intro t hL; refine gor hL ?_))); refine po_boxA hL ?_; clear hL; intro p5 t hL
    refine gor hL ?_; (repeat (clear hL; intro t hL; refine gor hL ?_)); (repeat (refine pseqk ?_; refine gor hL ?_; (repeat (clear hL; intro t hL; refine gor hL ?_))))
    (apply prangeJ (0) (by omega) (fun j t => Lay st [.box pw [a], .vec a (rowsB []) 1] t)); (· exact trimA); (· exact fun _ => rfl)
    · exact hL.pk
    · intro t hL
      refine gor hL ?_; (repeat (clear hL; intro t hL; refine gor hL ?_)); (repeat (refine pseqk ?_; refine gor hL ?_; (repeat (clear hL; intro t hL; refine gor hL ?_))))
      rw [← hQ]
      exact pfinK a rfl (.inl rfl) hL
    · intro k hk
      exact absurd hk (Nat.not_lt_zero _)
theorem putOddC (k m : Int) (v : VT) (hv : v.fit) (his : VT.is 1 (.mk k m [] []) v = true) (hk : k = 0 ∨ k = 1 ∨ k = 2 ∨ k = 3 ∨ k = 4 ∨ k = 6) (hlen : (putR 1 (.mk k m [] []) v).length ≤ 4000) : Pure (PCalls Try.prog GG) 29 [(KT.mk k m [] []).av, v.av] (.tup [.d (.sl (rowsB (putR 1 (.mk k m [] []) v))), .d (.int .i64 0)]) := by
  have hCh := C22 (.mk k m [] []) v ⟨fitS_nil, (show 0 < 2 ^ 40 by decide), trivial⟩ hv
  rw [VT.checkE, if_pos (odd_is his hk)] at hCh
  have hp := fun pw a => putOdd pw k m v a hv his hk hlen
  have hLen := fun pw a => wrLen pw a (putR 1 (.mk k m [] []) v)
  have hBy := fun pw a => wrBytes pw a (putR 1 (.mk k m [] []) v) (by omega)
  simp only [wrF, tkq] at hCh hp hLen hBy ⊢
  intro st; refine pcalls_of k29 e29 (of_decide_eq_true rfl) ?_; dsimp only [c29]; refine pstartL ?_; intro t hL; generalize hQ : pfin _ _ = Q
  (refine gor hL ?_; (repeat (clear hL; intro t hL; refine gor hL ?_))); refine po_boxA hL ?_; clear hL; intro p2 t hL
  (refine gor hL ?_; (repeat (clear hL; intro t hL; refine gor hL ?_))); refine po_boxA hL ?_; clear hL; intro p3 t hL
  refine gor hL ?_; (repeat (clear hL; intro t hL; refine gor hL ?_))
  refine po_c0 (hCh) ?_
  refine gor hL ?_; (repeat (clear hL; intro t hL; refine gor hL ?_)); (repeat (refine pseqk ?_; refine gor hL ?_; (repeat (clear hL; intro t hL; refine gor hL ?_))))
  (refine gor hL ?_; (repeat (clear hL; intro t hL; refine gor hL ?_))); refine po_boxA hL ?_; clear hL; intro p7 t hL
  refine gor hL ?_; (repeat (clear hL; intro t hL; refine gor hL ?_))
  replace hL := hL.full [] 1
  refine po_callK hL ((hp _ _)) ?_; clear hL; intro a t hL; have fa := hL.vk a; obtain ⟨fa_r, fa_w, fa_w1, fa_c, fa_s, fa_d⟩ := id fa
  refine gor hL ?_; (repeat (clear hL; intro t hL; refine gor hL ?_))
  refine po_callK hL ((hLen _ _)) ?_; clear hL; intro b t hL; have fb := hL.vk b; obtain ⟨fb_r, fb_w, fb_w1, fb_c, fb_s, fb_d⟩ := id fb
  refine gor hL ?_; (repeat (clear hL; intro t hL; refine gor hL ?_))
  refine pcond_b rfl (fun h => ?_) (fun h => ?_)
  · exfalso
    have : ((putR 1 (.mk k m [] []) v).length : Int) > 4000 := by simpa using h
    omega
  · refine gor hL ?_; (repeat (clear hL; intro t hL; refine gor hL ?_))
    refine po_callK hL (hBy _ _) ?_
    clear hL; intro c t hL
    obtain ⟨c1, c2⟩ := c
    simp only at hL
    have fc := hL.vk c2
    obtain ⟨fc_r, fc_w, fc_w1, fc_c, fc_s, fc_d⟩ := id fc
    refine gor hL ?_; (repeat (clear hL; intro t hL; refine gor hL ?_))
    rw [← hQ]
    refine pfin_weak (pret_two rfl rfl) ?_ hL.le
    simp only [pvwk]
    show AV.tup [c2.weakA, _] = _
    rw [fc.weakA]; rfl
theorem takeBig (T : KT) (b c : Nat) : Pure (PCalls Try.prog GG) 30 [T.av, .bsl b 0 4001 c] (.tup [VT.zero.av, .d (.int .i64 6)]) := by
  rw [VT.zero]
  simp only [tkq]
  intro st; refine pcalls_of k30 e30 (of_decide_eq_true rfl) ?_; dsimp only [c30]; refine pstartL ?_; intro t hL; generalize hQ : pfin _ _ = Q
  (refine gor hL ?_; (repeat (clear hL; intro t hL; refine gor hL ?_))); refine po_boxA hL ?_; clear hL; intro p2 t hL
  (refine gor hL ?_; (repeat (clear hL; intro t hL; refine gor hL ?_))); (with_reducible refine po_allocL hL rfl ?_); clear hL; intro p4 t hL
  refine gor hL ?_; (repeat (clear hL; intro t hL; refine gor hL ?_)); (repeat (refine pseqk ?_; refine gor hL ?_; (repeat (clear hL; intro t hL; refine gor hL ?_))))
  rw [← hQ]
  exact pfin_weak (pret_two (pres_cellL hL rfl (by repeat (first | exact Rem.head | apply Rem.tail)) rfl) rfl) rfl hL.le
theorem C9 (x y : Nd) (hx : x.fit) (hy : y.fit) (l : List Int) (hr : ∀ x ∈ l, -9223372036854775808 ≤ x ∧ x ≤ 9223372036854775807) (k m : Int) (hk : 0 ≤ k ∧ k ≤ 255) (hm : -9223372036854775808 ≤ m ∧ m ≤ 9223372036854775807) (B : List Int) (hb : bytesL B) :
    Pure (PCalls Try.prog GG) 9 [x.av, y.av, .d (i64s l), .d (.int .u8 k), .d (.int .i64 m), .d (.sl (rowsB B))] (b2 true) := by
  intro st; refine pcalls_of k9 e9 (of_decide_eq_true rfl) ?_; dsimp only [c9]; refine pstartL ?_; intro t hL; generalize hQ : pfin _ _ = Q
  (refine gor hL ?_; (repeat (clear hL; intro t hL; refine gor hL ?_))); refine po_boxA hL ?_; clear hL; intro p6 t hL
  (refine gor hL ?_; (repeat (clear hL; intro t hL; refine gor hL ?_))); refine po_boxA hL ?_; clear hL; intro p7 t hL
  refine gor hL ?_; (repeat (clear hL; intro t hL; refine gor hL ?_))
  refine po_c0 (putAwake) ?_
  refine gor hL ?_; (repeat (clear hL; intro t hL; refine gor hL ?_)); (repeat (refine pseqk ?_; refine gor hL ?_; (repeat (clear hL; intro t hL; refine gor hL ?_))))
  refine po_c0 (C13 x 4 hx (by decide)) ?_
  refine gor hL ?_; (repeat (clear hL; intro t hL; refine gor hL ?_))
  ((with_reducible apply po_g); (· exact gwt); (· (intro hw; refine does_call0 ?_ (C13 y 4 hy (by decide)); exact gargs hw)))
  refine gor hL ?_; (repeat (clear hL; intro t hL; refine gor hL ?_))
  refine pcond_b rfl (fun hq => ?_) (fun hq => ?_)
  · refine gor hL ?_; (repeat (clear hL; intro t hL; refine gor hL ?_))
    rw [← hQ]
    exact pfin_pure rfl hL.le
  simp only [Bool.or_eq_false_iff, decide_eq_false_iff_not] at hq
  have hl : l.length < 2 ^ 40 := by omega
  have hbl : B.length < 2 ^ 40 := by omega
  obtain ⟨t1, t2, t3⟩ := typ_le hx
  obtain ⟨u1, u2, u3⟩ := typ_le hy
  have hW : WT 4 (Nd.typ 4 x []) := .of_typ (by decide) hx
  have hU : WT 4 (Nd.typ 4 y []) := .of_typ (by decide) hy
  have hcs : cost 20 (Nd.typ 4 y []) < 2 ^ 30 := Nat.lt_of_le_of_lt (hU.cost 20) (by decide)
  have hTp := C15 x hx
  have hUp := C15 y hy
  generalize Nd.typ 4 x [] = T at *
  generalize Nd.typ 4 y [] = U at *
  have hV := C14 l hl hr U u1 u2 u3
  have hvf : (buildV l U).fit := (buildM_few hr hU 20 0 0).fit (by decide)
  have hcnt := buildV_count l hcs
  generalize buildV l U = V at *
  have hP := C29 hW (by decide) V hvf fun h => by have := putR_few hW h; omega
  have hCk := C22 T V t1 hvf
  rw [VT.checkE, is_deep hW 20 _ (by decide)] at hCk
  have hfin : (VT.is 4 T V = true ∧ (putN 4 T V = 0 ∨ putN 4 T V = 6 ∧ (putE 4 T V).length = 0)) ∨ (VT.is 4 T V = false ∧ putN 4 T V = 17 ∧ (putE 4 T V).length = 0) := by
    by_cases his : VT.is 4 T V = true
    · refine .inl ⟨his, ?_⟩
      by_cases h4 : (putR 4 T V).length ≤ 4000
      · exact .inl (putN_small his h4).2
      · exact .inr ⟨(putN_great his h4).2, by rw [(putN_great his h4).1]; rfl⟩
    · exact .inr ⟨by simpa using his, by rw [putN, if_neg his], by rw [putE, if_neg (fun h => his h.1)]; rfl⟩
  generalize putE 4 T V = E at *
  generalize putN 4 T V = Nn at *
  have hBig := fun b c => takeBig T b c
  have hmod : 0 ≤ k % 14 ∧ k % 14 ≤ 255 := by omega
  have hO : WO 1 (.mk (k % 14) m [] []) := .odd 0 (k % 14) m hmod hm
  have hTk := C30 B hb hbl hO (by decide)
  have hkm : k.tmod 14 = k % 14 := Int.tmod_eq_emod_of_nonneg hk.1
  have hk14 := hmod
  simp only [VT.zero, tkq] at hTp hUp hV hP hCk hBig
  refine gor hL ?_; (repeat (clear hL; intro t hL; refine gor hL ?_))
  refine po_cp (hTp) ?_
  refine gor hL ?_; (repeat (clear hL; intro t hL; refine gor hL ?_))
  refine po_cp (hUp) ?_
  refine gor hL ?_; (repeat (clear hL; intro t hL; refine gor hL ?_))
  (refine gor hL ?_; (repeat (clear hL; intro t hL; refine gor hL ?_))); (with_reducible refine po_allocL hL rfl ?_); clear hL; intro p13 t hL
  refine gor hL ?_; (repeat (clear hL; intro t hL; refine gor hL ?_))
  (refine gor hL ?_; (repeat (clear hL; intro t hL; refine gor hL ?_))); (with_reducible refine po_allocL hL rfl ?_); clear hL; intro p14 t hL
  refine gor hL ?_; (repeat (clear hL; intro t hL; refine gor hL ?_)); (repeat (refine pseqk ?_; refine gor hL ?_; (repeat (clear hL; intro t hL; refine gor hL ?_))))
  refine po_c0 (hV) ?_
  refine gor hL ?_; (repeat (clear hL; intro t hL; refine gor hL ?_))
  (refine gor hL ?_; (repeat (clear hL; intro t hL; refine gor hL ?_))); (with_reducible refine po_allocL hL rfl ?_); clear hL; intro p15 t hL
  refine gor hL ?_; (repeat (clear hL; intro t hL; refine gor hL ?_)); (repeat (refine pseqk ?_; refine gor hL ?_; (repeat (clear hL; intro t hL; refine gor hL ?_))))
  refine po_c0 (hP) ?_
  refine gor hL ?_; (repeat (clear hL; intro t hL; refine gor hL ?_)); (repeat (refine pseqk ?_; refine gor hL ?_; (repeat (clear hL; intro t hL; refine gor hL ?_))))
  refine po_makeL hL rfl (l := 4001) (c := 4001) rfl rfl ⟨Nat.le_refl _, by decide⟩ ?_
  clear hL; intro pz t hL
  generalize (List.replicate 4001 [AV.d (Dat.int IntKind.u8 0)]).flatten = zs at hL
  refine gor hL ?_; (repeat (clear hL; intro t hL; refine gor hL ?_))
  refine po_c0 ((hBig pz 4001)) ?_
  refine gor hL ?_; (repeat (clear hL; intro t hL; refine gor hL ?_))
  (refine gor hL ?_; (repeat (clear hL; intro t hL; refine gor hL ?_))); (with_reducible refine po_allocL hL rfl ?_); clear hL; intro p18 t hL
  refine gor hL ?_; (repeat (clear hL; intro t hL; refine gor hL ?_)); (repeat (refine pseqk ?_; refine gor hL ?_; (repeat (clear hL; intro t hL; refine gor hL ?_))))
  refine gnm ?_; rw [hkm]
  (refine gor hL ?_; (repeat (clear hL; intro t hL; refine gor hL ?_))); (with_reducible refine po_allocL hL rfl ?_); clear hL; intro p20 t hL
  refine gor hL ?_; (repeat (clear hL; intro t hL; refine gor hL ?_)); (repeat (refine pseqk ?_; refine gor hL ?_; (repeat (clear hL; intro t hL; refine gor hL ?_))))
  by_cases h9 : takeN B 1 (.mk (k % 14) m [] []) = 0
  · obtain ⟨w1, w2, w3, w4⟩ := take_all hb hbl hO h9
    have hkk : k % 14 = 0 ∨ k % 14 = 1 ∨ k % 14 = 2 ∨ k % 14 = 3 ∨ k % 14 = 4 ∨ k % 14 = 6 := by
      refine odd_kind (m := m) hb hmod ?_
      rw [takeN, if_pos w4] at h9
      exact (endN_0 h9).1
    rw [h9] at hTk
    generalize takeV B 1 (.mk (k % 14) m [] []) = w at *
    have hPo := putOddC (k % 14) m w w2 w1 hkk (by rw [w3]; exact w4)
    rw [w3] at hPo
    simp only [VT.zero, tkq] at hTk hPo
    refine po_c0 (hTk) ?_
    refine gor hL ?_; (repeat (clear hL; intro t hL; refine gor hL ?_))
    (refine gor hL ?_; (repeat (clear hL; intro t hL; refine gor hL ?_))); (with_reducible refine po_allocL hL rfl ?_); clear hL; intro p21 t hL
    refine gor hL ?_; (repeat (clear hL; intro t hL; refine gor hL ?_)); (repeat (refine pseqk ?_; refine gor hL ?_; (repeat (clear hL; intro t hL; refine gor hL ?_))))
    refine po_c0 (hPo) ?_
    refine gor hL ?_; (repeat (clear hL; intro t hL; refine gor hL ?_)); (repeat (refine pseqk ?_; refine gor hL ?_; (repeat (clear hL; intro t hL; refine gor hL ?_))))
    refine po rfl (ev_strOf rfl) ?_
    refine gor hL ?_; (repeat (clear hL; intro t hL; refine gor hL ?_))
    refine po rfl (ev_strOf rfl) ?_
    refine gor hL ?_; (repeat (clear hL; intro t hL; refine gor hL ?_))
    refine gnm ?_; rw [beq_self_eq_true (strOfL B).toList]
    refine gor hL ?_; (repeat (clear hL; intro t hL; refine gor hL ?_)); (repeat (refine pseqk ?_; refine gor hL ?_; (repeat (clear hL; intro t hL; refine gor hL ?_))))
    refine po_c0 (hCk) ?_
    refine gor hL ?_; (repeat (clear hL; intro t hL; refine gor hL ?_))
    rw [← hQ]
    refine pfin_pure (congrArg (fun z => some (b2 z)) ?_) hL.le
    rcases hfin with ⟨a1, a2 | ⟨a2, a3⟩⟩ | ⟨a1, a2, a3⟩
    · simp [a1, a2]
    · simp [a1, a2, a3]
    · simp [a1, a2, a3]
  · have h9' : (takeN B 1 (.mk (k % 14) m [] []) == 0) = false := by simpa using h9
    rw [take_none h9] at hTk
    simp only [VT.zero, tkq] at hTk
    refine po_c0 (hTk) ?_
    refine gor hL ?_; (repeat (clear hL; intro t hL; refine gor hL ?_))
    (refine gor hL ?_; (repeat (clear hL; intro t hL; refine gor hL ?_))); (with_reducible refine po_allocL hL rfl ?_); clear hL; intro p21 t hL
    refine gor hL ?_; (repeat (clear hL; intro t hL; refine gor hL ?_)); (repeat (refine pseqk ?_; refine gor hL ?_; (repeat (clear hL; intro t hL; refine gor hL ?_))))
    refine gnm ?_; rw [h9']
    refine gor hL ?_; (repeat (clear hL; intro t hL; refine gor hL ?_)); (repeat (refine pseqk ?_; refine gor hL ?_; (repeat (clear hL; intro t hL; refine gor hL ?_))))
    refine po_c0 (hCk) ?_
    refine gor hL ?_; (repeat (clear hL; intro t hL; refine gor hL ?_))
    rw [← hQ]
    refine pfin_pure (congrArg (fun z => some (b2 z)) ?_) hL.le
    rcases hfin with ⟨a1, a2 | ⟨a2, a3⟩⟩ | ⟨a1, a2, a3⟩
    · simp [a1, a2]
    · simp [a1, a2, a3]
    · simp [a1, a2, a3]
end Go.Pv
