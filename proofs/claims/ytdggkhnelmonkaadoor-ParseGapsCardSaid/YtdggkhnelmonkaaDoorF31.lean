/- Functions of the program, by value. No condition. -/
import Derived.Test.YtdggkhnelmonkaaDoorF27
import Derived.Test.YtdggkhnelmonkaaDoorF24
import Derived.Test.YtdggkhnelmonkaaDoorL5
import Derived.Test.YtdggkhnelmonkaaDoorD10
namespace Go.Pv
open Go.Proofs
set_option maxRecDepth 100000
set_option maxHeartbeats 8000000
/-- prompter/prompterlaw06.ParseReads -/
abbrev c5_2 : PCode :=
 (.seq (.region [⟨(.some 4), (.mov (.c (.d (.bool .false)))), .none⟩])
 .ret)
abbrev c5_1 : PCode :=
 (.cond (.t 12)
  c5_2
  .skip)
abbrev c5_5 : PCode :=
 (.seq (.region [⟨(.some 4), (.mov (.c (.d (.bool .true)))), .none⟩])
 .ret)
abbrev c5_4 : PCode :=
 (.cond (.t 20)
  c5_5
  .skip)
abbrev c5_11 : PCode :=
 (.seq (.region [⟨(.some 36), (.mov (.t 9)), .none⟩,
   ⟨(.some 37), (.bin .eql (.t 36) (.c (.d (.int .i64 6)))), .none⟩,
   ⟨(.some 38), (.mov (.t 37)), .none⟩,
   ⟨(.some 39), (.mov (.t 8)), (.some (38, .true))⟩,
   ⟨(.some 40), (.bin .eql (.t 39) (.c (.d (.int .i64 4000)))), (.some (38, .true))⟩,
   ⟨(.some 41), (.pick (.t 38) (.t 40) (.c (.d (.bool .false)))), .none⟩,
   ⟨(.some 4), (.mov (.t 41)), .none⟩])
 .ret)
abbrev c5_10 : PCode :=
 (.cond (.t 35)
  c5_11
  .skip)
abbrev c5_15 : PCode :=
 (.seq (.region [⟨(.some 46), (.mov (.t 9)), .none⟩,
   ⟨(.some 47), (.mov (.t 10)), .none⟩,
   ⟨(.some 48), (.bin .eql (.t 46) (.t 47)), .none⟩,
   ⟨(.some 49), (.mov (.t 48)), .none⟩,
   ⟨(.some 50), (.mov (.t 8)), (.some (49, .true))⟩,
   ⟨(.some 51), (.mov (.t 6)), (.some (49, .true))⟩,
   ⟨(.some 52), (.lenS (.t 51)), (.some (49, .true))⟩,
   ⟨(.some 53), (.bin .eql (.t 50) (.t 52)), (.some (49, .true))⟩,
   ⟨(.some 54), (.pick (.t 49) (.t 53) (.c (.d (.bool .false)))), .none⟩,
   ⟨(.some 4), (.mov (.t 54)), .none⟩])
 .ret)
abbrev c5_14 : PCode :=
 (.cond (.t 45)
  c5_15
  .skip)
abbrev c5_13 : PCode :=
 (.keep [5, 6, 7, 8, 9, 10] (.seq (.region [⟨(.some 44), (.mov (.t 10)), .none⟩,
   ⟨(.some 45), (.bin .neq (.t 44) (.c (.d (.int .i64 0)))), .none⟩])
 c5_14))
abbrev c5_16 : PCode :=
 (.seq (.region [⟨(.some 55), (.mov (.t 9)), .none⟩,
   ⟨(.some 56), (.bin .eql (.t 55) (.c (.d (.int .i64 0)))), .none⟩,
   ⟨(.some 57), (.mov (.t 56)), .none⟩,
   ⟨(.some 58), (.mov (.t 8)), (.some (57, .true))⟩,
   ⟨(.some 59), (.bin .eql (.t 58) (.c (.d (.int .i64 0)))), (.some (57, .true))⟩,
   ⟨(.some 60), (.pick (.t 57) (.t 59) (.c (.d (.bool .false)))), .none⟩,
   ⟨(.some 61), (.mov (.t 60)), .none⟩,
   ⟨(.some 62), (.load .true 6 (.t 5) .false), (.some (61, .true))⟩,
   ⟨(.some 63), (.load .true 6 (.t 7) .false), (.some (61, .true))⟩,
   ⟨(.some 64), (.call0 20 [(.t 62), (.t 63)]), (.some (61, .true))⟩,
   ⟨(.some 65), (.pick (.t 61) (.t 64) (.c (.d (.bool .false)))), .none⟩,
   ⟨(.some 4), (.mov (.t 65)), .none⟩])
 .ret)
abbrev c5_12 : PCode :=
 (.keep [5, 6, 7, 8, 9] (.seq (.seq (.region [⟨(.some 42), (.load .true 6 (.t 5) .false), .none⟩,
   ⟨(.some 43), (.call0 18 [(.t 42)]), .none⟩,
   ⟨(.some 10), (.mov (.t 43)), .none⟩])
 c5_13)
 c5_16))
abbrev c5_9 : PCode :=
 (.keep [5, 6, 7, 8, 9] (.seq (.seq (.region [⟨(.some 33), (.mov (.t 6)), .none⟩,
   ⟨(.some 34), (.lenS (.t 33)), .none⟩,
   ⟨(.some 35), (.bin .gtr (.t 34) (.c (.d (.int .i64 4000)))), .none⟩])
 c5_10)
 c5_12))
abbrev c5_8 : PCode :=
 (.keep [5, 6] (.seq (.region [⟨(.some 28), (.mov (.t 6)), .none⟩,
   ⟨(.some 29), (.call0 19 [(.t 28)]), .none⟩,
   ⟨(.some 27), (.mov (.t 29)), .none⟩,
   ⟨(.some 30), (.ext (.t 27) 0), .none⟩,
   ⟨(.some 31), (.ext (.t 27) 1), .none⟩,
   ⟨(.some 32), (.ext (.t 27) 2), .none⟩,
   ⟨(.some 7), (.alloc [(.d (.str (bs []))), (.d (.int .i64 0)), (.d (.int .i64 0)), (.full []), (.full []), (.full [])]), .none⟩,
   ⟨.none, (.store 6 (.t 7) (.t 30)), .none⟩,
   ⟨(.some 8), (.mov (.t 31)), .none⟩,
   ⟨(.some 9), (.mov (.t 32)), .none⟩])
 c5_9))
abbrev c5_7 : PCode :=
 (.keep [1, 5] (.seq (.region [⟨(.some 23), (.load .true 6 (.t 5) .false), .none⟩,
   ⟨(.some 24), (.call0 16 [(.t 23)]), .none⟩,
   ⟨(.some 25), (.mov (.t 1)), .none⟩,
   ⟨(.some 26), (.call0 17 [(.t 24), (.t 25)]), .none⟩,
   ⟨(.some 6), (.mov (.t 26)), .none⟩])
 c5_8))
abbrev c5_6 : PCode :=
 (.keep [1, 2] (.seq (.region [⟨(.some 21), (.load .true 4 (.t 2) .false), .none⟩,
   ⟨(.some 22), (.call0 15 [(.t 21)]), .none⟩,
   ⟨(.some 5), (.alloc [(.d (.str (bs []))), (.d (.int .i64 0)), (.d (.int .i64 0)), (.full []), (.full []), (.full [])]), .none⟩,
   ⟨.none, (.store 6 (.t 5) (.t 22)), .none⟩])
 c5_7))
abbrev c5_3 : PCode :=
 (.keep [1, 2] (.seq (.seq (.region [⟨(.some 13), (.load .true 4 (.t 2) .false), .none⟩,
   ⟨(.some 14), (.call0 14 [(.t 13)]), .none⟩,
   ⟨(.some 15), (.not (.t 14)), .none⟩,
   ⟨(.some 16), (.mov (.t 15)), .none⟩,
   ⟨(.some 17), (.mov (.t 1)), (.some (16, .false))⟩,
   ⟨(.some 18), (.len (.t 17)), (.some (16, .false))⟩,
   ⟨(.some 19), (.bin .gtr (.t 18) (.c (.d (.int .i64 50)))), (.some (16, .false))⟩,
   ⟨(.some 20), (.pick (.t 16) (.c (.d (.bool .true))) (.t 19)), .none⟩])
 c5_4)
 c5_6))
abbrev c5_0 : PCode :=
 (.seq (.seq (.region [⟨(.some 11), (.call0 13 []), .none⟩,
   ⟨(.some 12), (.not (.t 11)), .none⟩])
 c5_1)
 c5_3)
def c5 : PFun := ⟨
 (.seq (.region [⟨(.some 2), (.box 4 (.t 0)), .none⟩,
   ⟨(.some 4), (.mov (.c (.d (.bool .false)))), .none⟩])
 c5_0),
 2, 66, [(.tmp 4)]⟩

theorem e5 : entered Tryd.prog 5 = true := by kernel_rfl
theorem k5 : compFun Tryd.prog (fun _ => 0) 5 = some c5.er := by kernel_rfl

theorem alike_refl (t : TB) : t.alike t = true := by
  simp only [TB.alike, seqB_refl, beq_self_eq_true, Bool.true_and, Bool.and_eq_true]
  exact ⟨⟨eqAll_refl fun a _ => by simp [Al.same, seqB_refl, same_refl], eqAll_refl fun a _ => by simp [Fl.same, seqB_refl]⟩, eqAll_refl fun a _ => by simp [Pc.same, seqB_refl, same_refl]⟩
theorem tx_size {T : TB} (hT : PTB T) (gaps : List Int) (hl : T.toks.length ≤ 20000) : (texM (TX T.toks) gaps (TX T.toks).length).size ≤ 720000 := by
  have := texM_small (TX T.toks) gaps (fun x hx => by
    obtain ⟨y, hy, rfl⟩ := List.mem_map.1 hx
    exact (good_table hT y hy).2) (TX T.toks).length (Nat.le_refl _)
  rw [List.length_map] at this ⊢; omega
theorem C5 (s : Sm) (hs : s.fit) (gaps : List Int) (hgl : gaps.length ≤ maxLen) (hg : ∀ x ∈ gaps, 0 ≤ x ∧ x ≤ 255) : Pure (PCalls Tryd.prog GK) 5 [s.av, .d (.sl (gaps.map fun n => [.int .u8 n]))] (b2 true) := by
  have hT := sm_pt hs
  have hlen := sm_len hs
  have hfit := tb_fit hs
  have hsz := tx_size hT gaps hlen
  have hC16 := C16 hT (by omega)
  have hC15 := C15 s hs
  have hlg := C14 s hs
  generalize hTT : s.tb = T at *
  have hTl : (TX T.toks).length = T.toks.length := List.length_map _
  have hread := parse_text hT gaps
  rw [← hTl] at hread
  intro st; refine pcalls_of k5 e5 (of_decide_eq_true rfl) ?_; dsimp only [c5]; refine pstartL ?_; intro t hL; generalize hQ : pfin _ _ = Q
  (refine gor hL ?_; (repeat (clear hL; intro t hL; refine gor hL ?_))); refine po_boxA hL ?_; clear hL; intro p2 t hL
  refine gor hL ?_; (repeat (clear hL; intro t hL; refine gor hL ?_)); (repeat (refine pseqk ?_; refine gor hL ?_; (repeat (clear hL; intro t hL; refine gor hL ?_))))
  refine po_c0 (C13) ?_
  refine gor hL ?_; (repeat (clear hL; intro t hL; refine gor hL ?_)); (repeat (refine pseqk ?_; refine gor hL ?_; (repeat (clear hL; intro t hL; refine gor hL ?_))))
  refine po_c0 (hlg) ?_
  refine gor hL ?_; (repeat (clear hL; intro t hL; refine gor hL ?_))
  cases hlt : s.light with
  | false =>
    rw [hlt] at *
    refine gor hL ?_; (repeat (clear hL; intro t hL; refine gor hL ?_))
    rw [← hQ]
    exact pfin_pure rfl hL.le
  | true =>
    rw [hlt] at *
    refine gor hL ?_; (repeat (clear hL; intro t hL; refine gor hL ?_))
    by_cases h50 : gaps.length > 50
    · refine gnm ?_; rw [decide_eq_true (show (gaps.length : Int) > 50 by omega)]
      refine gor hL ?_; (repeat (clear hL; intro t hL; refine gor hL ?_))
      rw [← hQ]
      exact pfin_pure rfl hL.le
    refine gnm ?_; rw [decide_eq_false (show ¬ (gaps.length : Int) > 50 by omega)]
    refine gor hL ?_; (repeat (clear hL; intro t hL; refine gor hL ?_))
    have hC17 := C17 (TX T.toks) gaps hg (by omega) (by omega) (by omega)
    have hCP := C19 (texM (TX T.toks) gaps (TX T.toks).length) (by omega)
    refine po_c0 (hC15) ?_
    refine gor hL ?_; (repeat (clear hL; intro t hL; refine gor hL ?_))
    (refine gor hL ?_; (repeat (clear hL; intro t hL; refine gor hL ?_))); (with_reducible refine po_allocL hL rfl ?_); clear hL; intro p5 t hL
    refine gor hL ?_; (repeat (clear hL; intro t hL; refine gor hL ?_))
    refine po_c0 (hC16) ?_
    refine gor hL ?_; (repeat (clear hL; intro t hL; refine gor hL ?_))
    refine po_c0 (hC17) ?_
    refine gor hL ?_; (repeat (clear hL; intro t hL; refine gor hL ?_))
    generalize texM (TX T.toks) gaps (TX T.toks).length = X at *
    have hCk := C18 T hfit
    have hCa := C20 T T hfit
    rw [alike_refl] at hCa
    by_cases hbig : X.size > 4000
    · rw [parse_long hbig] at hCP
      simp only [parseA, TB.av, TB.zero, List.map_nil] at hCP
      refine po_c0 (hCP) ?_
      refine gor hL ?_; (repeat (clear hL; intro t hL; refine gor hL ?_))
      (refine gor hL ?_; (repeat (clear hL; intro t hL; refine gor hL ?_))); (with_reducible refine po_allocL hL rfl ?_); clear hL; intro p7 t hL
      refine gor hL ?_; (repeat (clear hL; intro t hL; refine gor hL ?_))
      refine gnm ?_; rw [decide_eq_true (show (X.size : Int) > 4000 by omega)]
      refine gor hL ?_; (repeat (clear hL; intro t hL; refine gor hL ?_))
      rw [← hQ]
      exact pfin_pure rfl hL.le
    have hbig' : ¬ X.size > 4000 := hbig
    rw [hread (by omega)] at hCP
    by_cases hck : T.check = 0
    · rw [if_neg (by rw [hck]; simp)] at hCP
      simp only [parseA] at hCP
      refine po_c0 (hCP) ?_
      refine gor hL ?_; (repeat (clear hL; intro t hL; refine gor hL ?_))
      (refine gor hL ?_; (repeat (clear hL; intro t hL; refine gor hL ?_))); (with_reducible refine po_allocL hL rfl ?_); clear hL; intro p7 t hL
      refine gor hL ?_; (repeat (clear hL; intro t hL; refine gor hL ?_))
      refine gnm ?_; rw [decide_eq_false (show ¬ (X.size : Int) > 4000 by omega)]
      refine gor hL ?_; (repeat (clear hL; intro t hL; refine gor hL ?_))
      rw [hck] at hCk
      refine po_c0 (hCk) ?_
      refine gor hL ?_; (repeat (clear hL; intro t hL; refine gor hL ?_))
      refine po_c0 (hCa) ?_
      refine gor hL ?_; (repeat (clear hL; intro t hL; refine gor hL ?_))
      rw [← hQ]
      exact pfin_pure rfl hL.le
    · rw [if_pos hck] at hCP
      simp only [parseA, TB.av, TB.zero, List.map_nil] at hCP
      refine po_c0 (hCP) ?_
      refine gor hL ?_; (repeat (clear hL; intro t hL; refine gor hL ?_))
      (refine gor hL ?_; (repeat (clear hL; intro t hL; refine gor hL ?_))); (with_reducible refine po_allocL hL rfl ?_); clear hL; intro p7 t hL
      refine gor hL ?_; (repeat (clear hL; intro t hL; refine gor hL ?_))
      refine gnm ?_; rw [decide_eq_false (show ¬ (X.size : Int) > 4000 by omega)]
      refine gor hL ?_; (repeat (clear hL; intro t hL; refine gor hL ?_))
      refine po_c0 (hCk) ?_
      refine gor hL ?_; (repeat (clear hL; intro t hL; refine gor hL ?_))
      refine gnm ?_; rw [show (T.check != 0) = true by simpa using hck]
      refine gor hL ?_; (repeat (clear hL; intro t hL; refine gor hL ?_))
      rw [← hQ]
      exact pfin_pure rfl hL.le
end Go.Pv
