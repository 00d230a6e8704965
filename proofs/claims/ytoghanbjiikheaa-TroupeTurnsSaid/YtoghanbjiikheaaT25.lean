/- Functions of the program, by value. No condition. -/
import Derived.Test.YtoghanbjiikheaaT26
namespace Go.Pv
open Go.Proofs
set_option maxRecDepth 100000
set_option maxHeartbeats 8000000

/-- prompter/prompterlaw14.TroupeTurns -/
abbrev c7_2 : PCode :=
 (.seq (.region [⟨(.some 4), (.mov (.c (.d (.bool .false)))), .none⟩])
 .ret)
abbrev c7_1 : PCode :=
 (.cond (.t 10)
  c7_2
  .skip)
abbrev c7_11 : PCode :=
 (.seq (.region [⟨(.some 4), (.mov (.c (.d (.bool .false)))), .none⟩])
 .ret)
abbrev c7_10 : PCode :=
 (.cond (.t 32)
  c7_11
  .skip)
abbrev c7_9 : PCode :=
 (.seq (.region [⟨(.some 30), (.mov (.t 7)), .none⟩,
   ⟨(.some 31), (.len (.t 30)), .none⟩,
   ⟨(.some 32), (.bin .neq (.t 31) (.c (.d (.int .i64 0)))), .none⟩])
 c7_10)
abbrev c7_14 : PCode :=
 (.seq (.region [⟨(.some 4), (.mov (.c (.d (.bool .false)))), .none⟩])
 .ret)
abbrev c7_13 : PCode :=
 (.cond (.t 42)
  c7_14
  .skip)
abbrev c7_12 : PCode :=
 (.seq (.region [⟨(.some 33), (.mov (.t 7)), .none⟩,
   ⟨(.some 34), (.bld [(.d (.int .i64 0)), (.full [])] [(1, (1, (.t 33)))]), .none⟩,
   ⟨(.some 35), (.mov (.t 0)), .none⟩,
   ⟨(.some 36), (.mov (.t 5)), .none⟩,
   ⟨(.some 37), (.bin .shl (.c (.d (.int .u16 1))) (.t 36)), .none⟩,
   ⟨(.some 38), (.bin .andNot (.t 35) (.t 37)), .none⟩,
   ⟨(.some 39), (.callp 9 [(.t 38)]), .none⟩,
   ⟨(.some 40), (.bld [(.d (.int .i64 0)), (.full [])] [(1, (1, (.t 39)))]), .none⟩,
   ⟨(.some 41), (.callp 17 [(.t 34), (.t 40)]), .none⟩,
   ⟨(.some 42), (.not (.t 41)), .none⟩])
 c7_13)
abbrev c7_8 : PCode :=
 (.cond (.t 29)
  c7_9
  c7_12)
abbrev c7_15 : PCode :=
 (.keep [0, 5, 6, 8] (.seq (.region [⟨(.some 43), (.mov (.t 8)), .none⟩,
   ⟨(.some 44), (.bld [(.d (.int .i64 0)), (.full [])] [(1, (1, (.t 43)))]), .none⟩,
   ⟨(.some 45), (.mov (.t 0)), .none⟩,
   ⟨(.some 46), (.mov (.t 5)), .none⟩,
   ⟨(.some 47), (.bin .shl (.c (.d (.int .u16 1))) (.t 46)), .none⟩,
   ⟨(.some 48), (.bin .or (.t 45) (.t 47)), .none⟩,
   ⟨(.some 49), (.callp 9 [(.t 48)]), .none⟩,
   ⟨(.some 50), (.bld [(.d (.int .i64 0)), (.full [])] [(1, (1, (.t 49)))]), .none⟩,
   ⟨(.some 51), (.callp 17 [(.t 44), (.t 50)]), .none⟩,
   ⟨(.some 52), (.mov (.t 51)), .none⟩,
   ⟨(.some 53), (.load .true 2 (.t 6) .false), (.some (52, .true))⟩,
   ⟨(.some 54), (.mov (.t 0)), (.some (52, .true))⟩,
   ⟨(.some 55), (.callp 9 [(.t 54)]), (.some (52, .true))⟩,
   ⟨(.some 56), (.bld [(.d (.int .i64 0)), (.full [])] [(1, (1, (.t 55)))]), (.some (52, .true))⟩,
   ⟨(.some 57), (.callp 17 [(.t 53), (.t 56)]), (.some (52, .true))⟩,
   ⟨(.some 58), (.pick (.t 52) (.t 57) (.c (.d (.bool .false)))), .none⟩,
   ⟨(.some 4), (.mov (.t 58)), .none⟩])
 .ret))
abbrev c7_7 : PCode :=
 (.keep [0, 5, 6, 7, 8] (.seq (.seq (.region [⟨(.some 25), (.mov (.t 0)), .none⟩,
   ⟨(.some 26), (.mov (.t 5)), .none⟩,
   ⟨(.some 27), (.bin .shl (.c (.d (.int .u16 1))) (.t 26)), .none⟩,
   ⟨(.some 28), (.bin .andNot (.t 25) (.t 27)), .none⟩,
   ⟨(.some 29), (.bin .eql (.t 28) (.c (.d (.int .u16 0)))), .none⟩])
 c7_8)
 c7_15))
abbrev c7_6 : PCode :=
 (.keep [0, 5, 6] (.seq (.region [⟨(.some 19), (.load .true 2 (.t 6) .false), .none⟩,
   ⟨(.some 20), (.mov (.t 5)), .none⟩,
   ⟨(.some 21), (.callp 18 [(.t 19), (.t 20)]), .none⟩,
   ⟨(.some 22), (.load .true 2 (.t 6) .false), .none⟩,
   ⟨(.some 23), (.mov (.t 5)), .none⟩,
   ⟨(.some 24), (.callp 19 [(.t 22), (.t 23)]), .none⟩,
   ⟨(.some 7), (.mov (.t 21)), .none⟩,
   ⟨(.some 8), (.mov (.t 24)), .none⟩])
 c7_7))
abbrev c7_5 : PCode :=
 (.keep [0, 5] (.seq (.region [⟨(.some 16), (.mov (.t 0)), .none⟩,
   ⟨(.some 17), (.callp 9 [(.t 16)]), .none⟩,
   ⟨(.some 18), (.bld [(.d (.int .i64 0)), (.full [])] [(1, (1, (.t 17)))]), .none⟩,
   ⟨(.some 6), (.alloc [(.d (.int .i64 0)), (.full [])]), .none⟩,
   ⟨.none, (.store 2 (.t 6) (.t 18)), .none⟩])
 c7_6))
abbrev c7_4 : PCode :=
 (.keep [0, 1] (.seq (.region [⟨(.some 13), (.mov (.t 1)), .none⟩,
   ⟨(.some 14), (.bin .rem (.t 13) (.c (.d (.int .u8 16)))), .none⟩,
   ⟨(.some 15), (.cvt .i64 (.t 14)), .none⟩,
   ⟨(.some 5), (.mov (.t 15)), .none⟩])
 c7_5))
abbrev c7_3 : PCode :=
 (.keep [0, 1] (.seq (.region [⟨(.some 11), (.mov (.t 0)), .none⟩,
   ⟨(.some 12), (.minmax .true (.t 11) [(.c (.d (.int .u16 1)))]), .none⟩,
   ⟨(.some 0), (.mov (.t 12)), .none⟩])
 c7_4))
abbrev c7_0 : PCode :=
 (.seq (.seq (.region [⟨(.some 9), (.callp 8 []), .none⟩,
   ⟨(.some 10), (.not (.t 9)), .none⟩])
 c7_1)
 c7_3)
def c7 : PFun := ⟨
 (.seq (.region [⟨(.some 4), (.mov (.c (.d (.bool .false)))), .none⟩])
 c7_0),
 2, 59, [(.tmp 4)]⟩

theorem e7 : entered Try.prog 7 = true := by kernel_rfl
theorem k7 : compFun Try.prog (fun _ => 1) 7 = some c7.er := by kernel_rfl

theorem C7 (a n : Int) (ha : 0 ≤ a ∧ a ≤ 65535) (hn : 0 ≤ n ∧ n ≤ 255) : Pure (PCalls Try.prog GG) 7 [.d (.int .u16 a), .d (.int .u8 n)] (b2 true) := by
  intro st; refine pcalls_of k7 e7 (of_decide_eq_true rfl) ?_; dsimp only [c7]; refine pstartL ?_; intro t hL; generalize hQ : pfin _ _ = Q
  refine gor hL ?_; (repeat (clear hL; intro t hL; refine gor hL ?_))
  refine po_cp (C8) ?_
  refine gor hL ?_; (repeat (clear hL; intro t hL; refine gor hL ?_))
  obtain ⟨A, hA, hA1, hA2⟩ : ∃ A : Nat, (if True then if 1 > a then 1 else a else if 1 < a then 1 else a) = (A : Int) ∧ 1 ≤ A ∧ A < 65536 := by
    rw [if_pos trivial]
    split
    · exact ⟨1, rfl, by decide, by decide⟩
    · exact ⟨a.toNat, by omega, by omega, by omega⟩
  obtain ⟨k, hk, hk1⟩ : ∃ k : Nat, IntKind.i64.wrap (n.tmod 16) = (k : Int) ∧ k < 16 := by
    rw [Int.tmod_eq_emod_of_nonneg hn.1, IntWalk.i64_in (n % 16) (by omega)]
    exact ⟨(n % 16).toNat, by omega, by omega⟩
  refine gnm ?_; rw [hA, hk]
  have hml := memb_length A
  have hm0 : memb A ≠ [] := fun e => by rw [e] at hml; simp at hml
  have c1 := C9 A
  have c2 := PWithout 0 (memb A) k hm0 (by omega)
  have c3 := PWith 0 (memb A) k hm0 (by omega)
  refine po_cp (c1) ?_
  refine gor hL ?_; (repeat (clear hL; intro t hL; refine gor hL ?_))
  (refine gor hL ?_; (repeat (clear hL; intro t hL; refine gor hL ?_))); (with_reducible refine po_allocL hL rfl ?_); clear hL; intro p6 t hL
  refine gor hL ?_; (repeat (clear hL; intro t hL; refine gor hL ?_))
  refine po_cp (c2) ?_
  refine gor hL ?_; (repeat (clear hL; intro t hL; refine gor hL ?_))
  refine po_cp (c3) ?_
  refine gor hL ?_; (repeat (clear hL; intro t hL; refine gor hL ?_))
  refine pjoin (fun s u => s = put (put (put (put (fun _ => .undef) (some 8) (.d (ints (withF k (memb A))))) (some 6) (ptrAt p6)) (some 5) (.d (.int .i64 (k : Int)))) (some 0) (.d (.int .u16 (A : Int))) ∧ Lay st [.box p6 [.d (.int .i64 0), .d (ints (memb A))]] u) ?_ ?_
  · by_cases hz : clrN A k = 0
    · rw [keep_zero hA1 hA2 hz, show ints [] = .sl [] from rfl]
      refine gor hL ?_; (repeat (clear hL; intro t hL; refine gor hL ?_))
      refine gnm ?_; rw [shl_k hk1, clr_k, hz, show (((0 : Nat) : Int) == 0) = true from rfl]
      refine gor hL ?_; (repeat (clear hL; intro t hL; refine gor hL ?_))
      exact ⟨by first | rfl | simp +decide only [pvc, pvi, pvt], hL.pk⟩
    · rw [keep_memb hA1 hA2 hz]
      have c4 := C9 (clrN A k)
      have c5 := C17 0 0 (memb (clrN A k)) (memb (clrN A k)) (by have := memb_length (clrN A k); omega)
      rw [show decide ((0 : Int) = 0 ∧ memb (clrN A k) = memb (clrN A k)) = true from decide_eq_true ⟨rfl, rfl⟩] at c5
      refine gor hL ?_; (repeat (clear hL; intro t hL; refine gor hL ?_))
      refine gnm ?_; rw [shl_k hk1, clr_k, show ((clrN A k : Int) == 0) = false from beq_eq_false_iff_ne.2 (by omega)]
      refine gor hL ?_; (repeat (clear hL; intro t hL; refine gor hL ?_))
      refine gnm ?_; rw [shl_k hk1, clr_k]
      refine po_cp (c4) ?_
      refine gor hL ?_; (repeat (clear hL; intro t hL; refine gor hL ?_))
      refine po_cp (c5) ?_
      refine gor hL ?_; (repeat (clear hL; intro t hL; refine gor hL ?_))
      exact ⟨by first | rfl | simp +decide only [pvc, pvi, pvt], hL.pk⟩
  clear hL
  rintro s t ⟨rfl, hL⟩
  rw [with_memb hA1 hA2 hk1]
  have c6 := C9 (setN A k)
  have c7 := C17 0 0 (memb (setN A k)) (memb (setN A k)) (by have := memb_length (setN A k); omega)
  have c8 := C17 0 0 (memb A) (memb A) (by omega)
  rw [show decide ((0 : Int) = 0 ∧ memb (setN A k) = memb (setN A k)) = true from decide_eq_true ⟨rfl, rfl⟩] at c7
  rw [show decide ((0 : Int) = 0 ∧ memb A = memb A) = true from decide_eq_true ⟨rfl, rfl⟩] at c8
  refine gor hL ?_; (repeat (clear hL; intro t hL; refine gor hL ?_))
  refine gnm ?_; rw [shl_k hk1, set_k]
  refine po_cp (c6) ?_
  refine gor hL ?_; (repeat (clear hL; intro t hL; refine gor hL ?_))
  refine po_cp (c7) ?_
  refine gor hL ?_; (repeat (clear hL; intro t hL; refine gor hL ?_))
  refine po_cp (c1) ?_
  refine gor hL ?_; (repeat (clear hL; intro t hL; refine gor hL ?_))
  refine po_cp (c8) ?_
  refine gor hL ?_; (repeat (clear hL; intro t hL; refine gor hL ?_))
  rw [← hQ]
  exact pfin_pure rfl hL.le
end Go.Pv
