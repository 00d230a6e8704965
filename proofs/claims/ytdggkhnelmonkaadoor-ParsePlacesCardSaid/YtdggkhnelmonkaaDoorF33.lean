/- Functions of the program, by value. No condition. -/
import Derived.Test.YtdggkhnelmonkaaDoorF38
import Derived.Test.YtdggkhnelmonkaaDoorF27
import Derived.Test.YtdggkhnelmonkaaDoorF24
import Derived.Test.YtdggkhnelmonkaaDoorL5
import Derived.Test.YtdggkhnelmonkaaDoorF37
namespace Go.Pv
open Go.Proofs
set_option maxRecDepth 100000
set_option maxHeartbeats 8000000
/-- prompter/prompterlaw06.ParsePlaces -/
abbrev c3_2 : PCode :=
 (.seq (.region [⟨(.some 6), (.mov (.c (.d (.bool .false)))), .none⟩])
 .ret)
abbrev c3_1 : PCode :=
 (.cond (.t 16)
  c3_2
  .skip)
abbrev c3_5 : PCode :=
 (.seq (.region [⟨(.some 6), (.mov (.c (.d (.bool .true)))), .none⟩])
 .ret)
abbrev c3_4 : PCode :=
 (.cond (.t 24)
  c3_5
  .skip)
abbrev c3_11 : PCode :=
 (.seq (.region [⟨(.some 6), (.mov (.c (.d (.bool .true)))), .none⟩])
 .ret)
abbrev c3_10 : PCode :=
 (.cond (.t 39)
  c3_11
  .skip)
abbrev c3_15 : PCode :=
 (.seq (.region [⟨(.some 6), (.mov (.c (.d (.bool .false)))), .none⟩])
 .ret)
abbrev c3_14 : PCode :=
 (.cond (.t 55)
  c3_15
  .skip)
abbrev c3_21 : PCode :=
 (.seq (.region [⟨(.some 83), (.mov (.t 11)), .none⟩,
   ⟨(.some 84), (.mov (.t 14)), .none⟩,
   ⟨(.some 85), (.lenS (.t 84)), .none⟩,
   ⟨(.some 86), (.bin .add (.t 85) (.c (.d (.int .i64 3)))), .none⟩,
   ⟨(.some 87), (.bin .eql (.t 83) (.t 86)), .none⟩,
   ⟨(.some 88), (.mov (.t 87)), .none⟩,
   ⟨(.some 89), (.mov (.t 12)), (.some (88, .true))⟩,
   ⟨(.some 90), (.bin .eql (.t 89) (.c (.d (.int .i64 4)))), (.some (88, .true))⟩,
   ⟨(.some 91), (.pick (.t 88) (.t 90) (.c (.d (.bool .false)))), .none⟩,
   ⟨(.some 6), (.mov (.t 91)), .none⟩])
 .ret)
abbrev c3_20 : PCode :=
 (.cond (.t 82)
  c3_21
  .skip)
abbrev c3_22 : PCode :=
 (.keep [11, 12, 14] (.seq (.region [⟨(.some 92), (.mov (.t 11)), .none⟩,
   ⟨(.some 93), (.mov (.t 14)), .none⟩,
   ⟨(.some 94), (.lenS (.t 93)), .none⟩,
   ⟨(.some 95), (.bin .add (.t 94) (.c (.d (.int .i64 1)))), .none⟩,
   ⟨(.some 96), (.bin .eql (.t 92) (.t 95)), .none⟩,
   ⟨(.some 97), (.mov (.t 96)), .none⟩,
   ⟨(.some 98), (.mov (.t 12)), (.some (97, .true))⟩,
   ⟨(.some 99), (.bin .eql (.t 98) (.c (.d (.int .i64 4)))), (.some (97, .true))⟩,
   ⟨(.some 100), (.mov (.t 99)), (.some (97, .true))⟩,
   ⟨(.some 101), (.mov (.t 12)), (.some (100, .false))⟩,
   ⟨(.some 102), (.bin .eql (.t 101) (.c (.d (.int .i64 8)))), (.some (100, .false))⟩,
   ⟨(.some 103), (.pick (.t 100) (.c (.d (.bool .true))) (.t 102)), (.some (97, .true))⟩,
   ⟨(.some 104), (.mov (.t 103)), (.some (97, .true))⟩,
   ⟨(.some 105), (.mov (.t 12)), (.some (104, .false))⟩,
   ⟨(.some 106), (.bin .eql (.t 105) (.c (.d (.int .i64 22)))), (.some (104, .false))⟩,
   ⟨(.some 107), (.pick (.t 104) (.c (.d (.bool .true))) (.t 106)), (.some (97, .true))⟩,
   ⟨(.some 108), (.pick (.t 97) (.t 107) (.c (.d (.bool .false)))), .none⟩,
   ⟨(.some 6), (.mov (.t 108)), .none⟩])
 .ret))
abbrev c3_19 : PCode :=
 (.keep [8, 11, 12, 13, 14] (.seq (.seq (.region [⟨(.some 78), (.mov (.t 8)), .none⟩,
   ⟨(.some 79), (.mov (.t 13)), .none⟩,
   ⟨(.some 80), (.iaddr 1 (.t 78) (.t 79)), .none⟩,
   ⟨(.some 81), (.load .false 1 (.t 80) .false), .none⟩,
   ⟨(.some 82), (.bin .eql (.t 81) (.c (.d (.str (bs [41]))))), .none⟩])
 c3_20)
 c3_22))
abbrev c3_18 : PCode :=
 (.keep [8, 13, 14] (.seq (.region [⟨(.some 67), (.mov (.t 14)), .none⟩,
   ⟨(.some 68), (.bin .add (.t 67) (.c (.d (.str (bs [32, 41]))))), .none⟩,
   ⟨(.some 69), (.mov (.t 8)), .none⟩,
   ⟨(.some 70), (.mov (.t 13)), .none⟩,
   ⟨(.some 71), (.slc 1 (.t 69) (.some (.t 70)) .none), .none⟩,
   ⟨(.some 72), (.call0 17 [(.t 71), (.c (.full []))]), .none⟩,
   ⟨(.some 73), (.bin .add (.t 68) (.t 72)), .none⟩,
   ⟨(.some 74), (.call0 19 [(.t 73)]), .none⟩,
   ⟨(.some 66), (.mov (.t 74)), .none⟩,
   ⟨(.some 75), (.ext (.t 66) 0), .none⟩,
   ⟨(.some 76), (.ext (.t 66) 1), .none⟩,
   ⟨(.some 77), (.ext (.t 66) 2), .none⟩,
   ⟨(.some 11), (.mov (.t 76)), .none⟩,
   ⟨(.some 12), (.mov (.t 77)), .none⟩])
 c3_19))
abbrev c3_17 : PCode :=
 (.keep [1, 8, 13] (.seq (.region [⟨(.some 61), (.mov (.t 8)), .none⟩,
   ⟨(.some 62), (.mov (.t 13)), .none⟩,
   ⟨(.some 63), (.slc 1 (.t 61) .none (.some (.t 62))), .none⟩,
   ⟨(.some 64), (.mov (.t 1)), .none⟩,
   ⟨(.some 65), (.call0 17 [(.t 63), (.t 64)]), .none⟩,
   ⟨(.some 14), (.mov (.t 65)), .none⟩])
 c3_18))
abbrev c3_16 : PCode :=
 (.keep [1, 2, 8] (.seq (.region [⟨(.some 56), (.mov (.t 2)), .none⟩,
   ⟨(.some 57), (.cvt .i64 (.t 56)), .none⟩,
   ⟨(.some 58), (.mov (.t 8)), .none⟩,
   ⟨(.some 59), (.len (.t 58)), .none⟩,
   ⟨(.some 60), (.bin .rem (.t 57) (.t 59)), .none⟩,
   ⟨(.some 13), (.mov (.t 60)), .none⟩])
 c3_17))
abbrev c3_13 : PCode :=
 (.keep [1, 2, 8, 9, 11, 12] (.seq (.seq (.region [⟨(.some 47), (.mov (.t 12)), .none⟩,
   ⟨(.some 48), (.bin .neq (.t 47) (.c (.d (.int .i64 12)))), .none⟩,
   ⟨(.some 49), (.mov (.t 48)), .none⟩,
   ⟨(.some 50), (.mov (.t 11)), (.some (49, .false))⟩,
   ⟨(.some 51), (.mov (.t 9)), (.some (49, .false))⟩,
   ⟨(.some 52), (.lenS (.t 51)), (.some (49, .false))⟩,
   ⟨(.some 53), (.bin .add (.t 52) (.c (.d (.int .i64 1)))), (.some (49, .false))⟩,
   ⟨(.some 54), (.bin .neq (.t 50) (.t 53)), (.some (49, .false))⟩,
   ⟨(.some 55), (.pick (.t 49) (.c (.d (.bool .true))) (.t 54)), .none⟩])
 c3_14)
 c3_16))
abbrev c3_12 : PCode :=
 (.keep [1, 2, 8, 9] (.seq (.region [⟨(.some 41), (.mov (.t 9)), .none⟩,
   ⟨(.some 42), (.bin .add (.t 41) (.c (.d (.str (bs [32, 59]))))), .none⟩,
   ⟨(.some 43), (.call0 19 [(.t 42)]), .none⟩,
   ⟨(.some 40), (.mov (.t 43)), .none⟩,
   ⟨(.some 44), (.ext (.t 40) 0), .none⟩,
   ⟨(.some 45), (.ext (.t 40) 1), .none⟩,
   ⟨(.some 46), (.ext (.t 40) 2), .none⟩,
   ⟨(.some 10), (.alloc [(.d (.str (bs []))), (.d (.int .i64 0)), (.d (.int .i64 0)), (.full []), (.full []), (.full [])]), .none⟩,
   ⟨.none, (.store 6 (.t 10) (.t 44)), .none⟩,
   ⟨(.some 11), (.mov (.t 45)), .none⟩,
   ⟨(.some 12), (.mov (.t 46)), .none⟩])
 c3_13))
abbrev c3_9 : PCode :=
 (.keep [1, 2, 7, 8, 9] (.seq (.seq (.region [⟨(.some 32), (.load .true 6 (.t 7) .false), .none⟩,
   ⟨(.some 33), (.call0 18 [(.t 32)]), .none⟩,
   ⟨(.some 34), (.bin .neq (.t 33) (.c (.d (.int .i64 0)))), .none⟩,
   ⟨(.some 35), (.mov (.t 34)), .none⟩,
   ⟨(.some 36), (.mov (.t 9)), (.some (35, .false))⟩,
   ⟨(.some 37), (.lenS (.t 36)), (.some (35, .false))⟩,
   ⟨(.some 38), (.bin .gtr (.t 37) (.c (.d (.int .i64 3000)))), (.some (35, .false))⟩,
   ⟨(.some 39), (.pick (.t 35) (.c (.d (.bool .true))) (.t 38)), .none⟩])
 c3_10)
 c3_12))
abbrev c3_8 : PCode :=
 (.keep [1, 2, 7, 8] (.seq (.region [⟨(.some 29), (.mov (.t 8)), .none⟩,
   ⟨(.some 30), (.mov (.t 1)), .none⟩,
   ⟨(.some 31), (.call0 17 [(.t 29), (.t 30)]), .none⟩,
   ⟨(.some 9), (.mov (.t 31)), .none⟩])
 c3_9))
abbrev c3_7 : PCode :=
 (.keep [1, 2, 7] (.seq (.region [⟨(.some 27), (.load .true 6 (.t 7) .false), .none⟩,
   ⟨(.some 28), (.call0 16 [(.t 27)]), .none⟩,
   ⟨(.some 8), (.mov (.t 28)), .none⟩])
 c3_8))
abbrev c3_6 : PCode :=
 (.keep [1, 2, 3] (.seq (.region [⟨(.some 25), (.load .true 4 (.t 3) .false), .none⟩,
   ⟨(.some 26), (.call0 15 [(.t 25)]), .none⟩,
   ⟨(.some 7), (.alloc [(.d (.str (bs []))), (.d (.int .i64 0)), (.d (.int .i64 0)), (.full []), (.full []), (.full [])]), .none⟩,
   ⟨.none, (.store 6 (.t 7) (.t 26)), .none⟩])
 c3_7))
abbrev c3_3 : PCode :=
 (.keep [1, 2, 3] (.seq (.seq (.region [⟨(.some 17), (.load .true 4 (.t 3) .false), .none⟩,
   ⟨(.some 18), (.call0 14 [(.t 17)]), .none⟩,
   ⟨(.some 19), (.not (.t 18)), .none⟩,
   ⟨(.some 20), (.mov (.t 19)), .none⟩,
   ⟨(.some 21), (.mov (.t 1)), (.some (20, .false))⟩,
   ⟨(.some 22), (.len (.t 21)), (.some (20, .false))⟩,
   ⟨(.some 23), (.bin .gtr (.t 22) (.c (.d (.int .i64 50)))), (.some (20, .false))⟩,
   ⟨(.some 24), (.pick (.t 20) (.c (.d (.bool .true))) (.t 23)), .none⟩])
 c3_4)
 c3_6))
abbrev c3_0 : PCode :=
 (.seq (.seq (.region [⟨(.some 15), (.call0 13 []), .none⟩,
   ⟨(.some 16), (.not (.t 15)), .none⟩])
 c3_1)
 c3_3)
def c3 : PFun := ⟨
 (.seq (.region [⟨(.some 3), (.box 4 (.t 0)), .none⟩,
   ⟨(.some 6), (.mov (.c (.d (.bool .false)))), .none⟩])
 c3_0),
 3, 109, [(.tmp 6)]⟩

theorem e3 : entered Tryd.prog 3 = true := by kernel_rfl
theorem k3 : compFun Tryd.prog (fun _ => 0) 3 = some c3.er := by kernel_rfl

theorem C3 (s : Sm) (hs : s.fit) (gaps : List Int) (hgl : gaps.length ≤ maxLen) (hg : ∀ x ∈ gaps, 0 ≤ x ∧ x ≤ 255) (cut : Int) (hc : 0 ≤ cut ∧ cut ≤ 65535) :
    Pure (PCalls Tryd.prog GK) 3 [s.av, .d (.sl (gaps.map fun n => [.int .u8 n])), .d (.int .u16 cut)] (b2 true) := by
  have hT := sm_pt hs
  have hlen := sm_len hs
  have hfit := tb_fit hs
  have hsz := tx_size hT gaps hlen
  have hC16 := C16 hT (by omega)
  have hC15 := C15 s hs
  have hlg := C14 s hs
  generalize hTT : s.tb = T at *
  have hTl : (TX T.toks).length = T.toks.length := List.length_map _
  have hgood := good_table hT
  have hrest := parse_rest hT gaps
  have hwrong := fun i hi => parse_wrong hT gaps (i := i) hi
  have hpos : 0 < T.toks.length := by rw [TB.toks]; simp
  rw [← hTl] at hrest
  intro st; refine pcalls_of k3 e3 (of_decide_eq_true rfl) ?_; dsimp only [c3]; refine pstartL ?_; intro t hL; generalize hQ : pfin _ _ = Q
  (refine gor hL ?_; (repeat (clear hL; intro t hL; refine gor hL ?_))); refine po_boxA hL ?_; clear hL; intro p4 t hL
  refine gor hL ?_; (repeat (clear hL; intro t hL; refine gor hL ?_)); (repeat (refine pseqk ?_; refine gor hL ?_; (repeat (clear hL; intro t hL; refine gor hL ?_))))
  refine po_c0 (C13) ?_
  refine gor hL ?_; (repeat (clear hL; intro t hL; refine gor hL ?_)); (repeat (refine pseqk ?_; refine gor hL ?_; (repeat (clear hL; intro t hL; refine gor hL ?_))))
  refine po_c0 (hlg) ?_
  refine gor hL ?_; (repeat (clear hL; intro t hL; refine gor hL ?_))
  cases hlt : s.light with
  | false =>
    rw [hlt] at *
    refine gor hL ?_; (repeat (clear hL; intro t hL; refine gor hL ?_))
    rw [← hQ]
    exact pfin_pure rfl hL.le
  | true =>
    rw [hlt] at *
    refine gor hL ?_; (repeat (clear hL; intro t hL; refine gor hL ?_))
    by_cases h50 : gaps.length > 50
    · refine gnm ?_; rw [decide_eq_true (show (gaps.length : Int) > 50 by omega)]
      refine gor hL ?_; (repeat (clear hL; intro t hL; refine gor hL ?_))
      rw [← hQ]
      exact pfin_pure rfl hL.le
    refine gnm ?_; rw [decide_eq_false (show ¬ (gaps.length : Int) > 50 by omega)]
    refine gor hL ?_; (repeat (clear hL; intro t hL; refine gor hL ?_))
    have hC17 := C17 (TX T.toks) gaps hg (by omega) (by omega) (by omega)
    refine po_c0 (hC15) ?_
    refine gor hL ?_; (repeat (clear hL; intro t hL; refine gor hL ?_))
    (refine gor hL ?_; (repeat (clear hL; intro t hL; refine gor hL ?_))); (with_reducible refine po_allocL hL rfl ?_); clear hL; intro p7 t hL
    refine gor hL ?_; (repeat (clear hL; intro t hL; refine gor hL ?_))
    refine po_c0 (hC16) ?_
    refine gor hL ?_; (repeat (clear hL; intro t hL; refine gor hL ?_))
    refine po_c0 (hC17) ?_
    refine gor hL ?_; (repeat (clear hL; intro t hL; refine gor hL ?_))
    have hCk := C18 T hfit
    refine po_c0 (hCk) ?_
    refine gor hL ?_; (repeat (clear hL; intro t hL; refine gor hL ?_))
    generalize hX : texM (TX T.toks) gaps (TX T.toks).length = X at *
    by_cases hck : T.check ≠ 0
    · refine gnm ?_; rw [show (T.check != 0) = true by simpa using hck]
      refine gor hL ?_; (repeat (clear hL; intro t hL; refine gor hL ?_))
      rw [← hQ]
      exact pfin_pure rfl hL.le
    have hck : T.check = 0 := Decidable.not_not.1 hck
    refine gnm ?_; rw [hck]
    refine gor hL ?_; (repeat (clear hL; intro t hL; refine gor hL ?_))
    by_cases hbig : X.size > 3000
    · refine gnm ?_; rw [decide_eq_true (show (X.size : Int) > 3000 by omega)]
      refine gor hL ?_; (repeat (clear hL; intro t hL; refine gor hL ?_))
      rw [← hQ]
      exact pfin_pure rfl hL.le
    refine gnm ?_; rw [decide_eq_false (show ¬ (X.size : Int) > 3000 by omega)]
    refine gor hL ?_; (repeat (clear hL; intro t hL; refine gor hL ?_))
    have z2 : (bs [32, 59]).size = 2 := rfl
    refine po rfl (str_add rfl rfl (by rw [z2]; omega)) ?_
    refine gor hL ?_; (repeat (clear hL; intro t hL; refine gor hL ?_))
    have hCP := C19 (X ++ bs [32, 59]) (by rw [ByteArray.size_append, z2]; omega)
    rw [hrest (by rw [ByteArray.size_append, z2]; omega)] at hCP
    simp only [parseA, TB.av, TB.zero, List.map_nil] at hCP
    refine po_c0 (hCP) ?_
    refine gor hL ?_; (repeat (clear hL; intro t hL; refine gor hL ?_))
    (refine gor hL ?_; (repeat (clear hL; intro t hL; refine gor hL ?_))); (with_reducible refine po_allocL hL rfl ?_); clear hL; intro p10 t hL
    refine gor hL ?_; (repeat (clear hL; intro t hL; refine gor hL ?_))
    refine gnm ?_; rw [show (((X.size + 1 : Nat) : Int) != IntKind.i64.wrap ((X.size : Int) + 1)) = false by rw [IntWalk.i64_in _ (by omega)]; simp]
    refine gor hL ?_; (repeat (clear hL; intro t hL; refine gor hL ?_))
    obtain ⟨i, hk, hil⟩ : ∃ i : Nat, cut.tmod ((TX T.toks).length : Int) = (i : Int) ∧ i < T.toks.length := by
      rw [Int.tmod_eq_emod_of_nonneg hc.1, hTl]
      have h1 := Int.emod_nonneg cut (show (T.toks.length : Int) ≠ 0 by omega)
      have h2 := Int.emod_lt_of_pos cut (show 0 < (T.toks.length : Int) by omega)
      exact ⟨(cut % (T.toks.length : Int)).toNat, by omega, by omega⟩
    obtain ⟨p, e, hw, h1, h2⟩ := hwrong i hil (by rw [hTl] at hX; rw [show texM (T.toks.map (·.2)) gaps T.toks.length = X from hX]; omega)
    have gA := tx_small (T.toks.take i) (fun x hx => hgood x (List.mem_of_mem_take hx)) gaps (by rw [List.length_take]; omega)
    have gB := tx_small (T.toks.drop i) (fun x hx => hgood x (List.mem_of_mem_drop hx)) [] (by rw [List.length_drop]; omega)
    have lA : (TX (T.toks.take i)).length ≤ 20000 := by rw [TX, List.length_map, List.length_take]; omega
    have lB : (TX (T.toks.drop i)).length ≤ 20000 := by rw [TX, List.length_map, List.length_drop]; omega
    have hCA := C17 (TX (T.toks.take i)) gaps hg (by omega) (by omega) (by omega)
    have hCB := C17 (TX (T.toks.drop i)) [] (fun _ h => by cases h) (by decide) (by omega) (by omega)
    rw [List.map_nil] at hCB
    rw [wrongTx, show (T.toks.take i).length = (TX (T.toks.take i)).length from (List.length_map _).symm, show (T.toks.drop i).length = (TX (T.toks.drop i)).length from (List.length_map _).symm] at hw
    rw [show (T.toks.take i).length = (TX (T.toks.take i)).length from (List.length_map _).symm] at h1 h2
    change parseM (texM (TX (T.toks.take i)) gaps (TX (T.toks.take i)).length ++ bs [32, 41] ++ texM (TX (T.toks.drop i)) [] (TX (T.toks.drop i)).length) = _ at hw
    change _ → p = ((texM (TX (T.toks.take i)) gaps (TX (T.toks.take i)).length).size + 3 : Nat) ∧ _ at h1
    change _ → p = ((texM (TX (T.toks.take i)) gaps (TX (T.toks.take i)).length).size + 1 : Nat) ∧ _ at h2
    have e1 : (TX T.toks).take i = TX (T.toks.take i) := List.map_take.symm
    have e2 : (TX T.toks).drop i = TX (T.toks.drop i) := List.map_drop.symm
    have hy : (TX T.toks)[i]? = some (T.toks[i]).2 := by rw [TX, List.getElem?_map, List.getElem?_eq_getElem hil]; rfl
    refine gnm ?_; rw [IntWalk.i64_in cut (by omega)]
    refine gnm ?_; rw [hk]
    refine gor hL ?_; (repeat (clear hL; intro t hL; refine gor hL ?_))
    refine po rfl (ev_to (rows := srows (TX T.toks)) (k := i) rfl rfl (by rw [len_srows, hTl]; omega)) ?_
    rw [show (srows (TX T.toks)).take i = srows ((TX T.toks).take i) from (List.map_take ..).symm, e1]
    refine gor hL ?_; (repeat (clear hL; intro t hL; refine gor hL ?_))
    generalize texM (TX (T.toks.take i)) gaps (TX (T.toks.take i)).length = A at *
    generalize texM (TX (T.toks.drop i)) [] (TX (T.toks.drop i)).length = B at *
    have z3 : (bs [32, 41]).size = 2 := rfl
    refine po_c0 (hCA) ?_
    refine gor hL ?_; (repeat (clear hL; intro t hL; refine gor hL ?_))
    refine po rfl (str_add rfl rfl (by rw [z3]; omega)) ?_
    refine gor hL ?_; (repeat (clear hL; intro t hL; refine gor hL ?_))
    refine po rfl (ev_from (rows := srows (TX T.toks)) (k := i) rfl rfl (by rw [len_srows, hTl]; omega) (fun r hr => srows_one r hr)) ?_
    rw [show (srows (TX T.toks)).drop i = srows ((TX T.toks).drop i) from (List.map_drop ..).symm, e2]
    refine gor hL ?_; (repeat (clear hL; intro t hL; refine gor hL ?_))
    refine po_c0 (hCB) ?_
    refine gor hL ?_; (repeat (clear hL; intro t hL; refine gor hL ?_))
    refine po rfl (str_add rfl rfl (by rw [ByteArray.size_append, z3]; omega)) ?_
    refine gor hL ?_; (repeat (clear hL; intro t hL; refine gor hL ?_))
    have hCW := C19 (A ++ bs [32, 41] ++ B) (by rw [ByteArray.size_append, ByteArray.size_append, z3]; omega)
    rw [hw] at hCW
    simp only [parseA, TB.av, TB.zero, List.map_nil] at hCW
    refine po_c0 (hCW) ?_
    refine gor hL ?_; (repeat (clear hL; intro t hL; refine gor hL ?_))
    generalize (T.toks[i]).2 = w at *
    by_cases hp : w = sParR
    · obtain ⟨rfl, rfl⟩ := h1 hp
      refine gnm ?_; rw [show (w.toList == (bs [41]).toList) = true from seqB_iff.2 hp]
      refine gor hL ?_; (repeat (clear hL; intro t hL; refine gor hL ?_))
      refine gnm ?_; rw [show (((A.size + 3 : Nat) : Int) == IntKind.i64.wrap ((A.size : Int) + 3)) = true by rw [IntWalk.i64_in _ (by omega)]; simp]
      refine gor hL ?_; (repeat (clear hL; intro t hL; refine gor hL ?_))
      rw [← hQ]
      exact pfin_pure rfl hL.le
    · obtain ⟨rfl, h3⟩ := h2 hp
      refine gnm ?_; rw [show (w.toList == (bs [41]).toList) = false from Bool.eq_false_iff.2 fun h => hp (seqB_iff.1 h)]
      refine gor hL ?_; (repeat (clear hL; intro t hL; refine gor hL ?_))
      refine gnm ?_; rw [show (((A.size + 1 : Nat) : Int) == IntKind.i64.wrap ((A.size : Int) + 1)) = true by rw [IntWalk.i64_in _ (by omega)]; simp]
      refine gor hL ?_; (repeat (clear hL; intro t hL; refine gor hL ?_))
      rcases h3 with rfl | rfl | rfl
      all_goals
        refine gor hL ?_; (repeat (clear hL; intro t hL; refine gor hL ?_))
        rw [← hQ]
        exact pfin_pure rfl hL.le
end Go.Pv
