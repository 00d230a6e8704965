/- Functions of the program, by value. No condition. -/
import Derived.Test.YtdggkhnelmonkaaDoorR1
import Derived.Test.YtdggkhnelmonkaaDoorProg
import Derived.Test.YtdggkhnelmonkaaDoorD6
import Derived.Test.YtdggkhnelmonkaaDoorD1
namespace Go.Pv
open Go.Proofs
set_option maxRecDepth 100000
set_option maxHeartbeats 4000000

/-- (prompter/prompterlaw05.Node).Light -/
abbrev c28_5 : PCode :=
 (.seq (.region [⟨(.some 4), (.mov (.c (.d (.bool .false)))), .none⟩])
 .ret)
abbrev c28_4 : PCode :=
 (.cond (.t 22)
  c28_5
  .skip)
abbrev c28_3 : PCode :=
 (.keep [1, 2, 6, 8, 9, 10] (.seq (.region [⟨(.some 14), (.mov (.t 1)), .none⟩,
   ⟨(.some 15), (.bin .lss (.t 14) (.c (.d (.int .i64 1)))), .none⟩,
   ⟨(.some 16), (.mov (.t 15)), .none⟩,
   ⟨(.some 17), (.load .true 3 (.t 6) .false), (.some (16, .false))⟩,
   ⟨(.some 18), (.mov (.t 1)), (.some (16, .false))⟩,
   ⟨(.some 19), (.bin .sub (.t 18) (.c (.d (.int .i64 1)))), (.some (16, .false))⟩,
   ⟨(.some 20), (.call0 28 [(.t 17), (.t 19)]), (.some (16, .false))⟩,
   ⟨(.some 21), (.not (.t 20)), (.some (16, .false))⟩,
   ⟨(.some 22), (.pick (.t 16) (.c (.d (.bool .true))) (.t 21)), .none⟩])
 c28_4))
abbrev c28_2 : PCode :=
 (.block 1 (.seq (.region [⟨(.some 12), (.iaddr 3 (.t 8) (.t 10)), .none⟩,
   ⟨(.some 13), (.load .true 3 (.t 12) .false), .none⟩,
   ⟨(.some 6), (.alloc [(.d (.int .u8 0)), (.d (.int .u8 0)), (.full [])]), .none⟩,
   ⟨.none, (.store 3 (.t 6) (.t 13)), .none⟩])
 c28_3))
abbrev c28_1 : PCode :=
 (.keep [1, 2, 8, 9, 10] (.block 0 (.loop (.some [10, 1, 2, 8, 9]) (.seq (.region [⟨(.some 11), (.bin .lss (.t 10) (.t 9)), .none⟩])
 (.seq (.cond (.t 11)
  .skip
  (.exit 0))
 (.seq c28_2
 (.region [⟨(.some 23), (.bin .add (.t 10) (.c (.d (.int .i64 1)))), .none⟩,
   ⟨(.some 10), (.mov (.t 23)), .none⟩])))))))
abbrev c28_6 : PCode :=
 (.seq (.region [⟨(.some 24), (.faddr 2 (.t 2)), .none⟩,
   ⟨(.some 25), (.load .false 1 (.t 24) .false), .none⟩,
   ⟨(.some 26), (.len (.t 25)), .none⟩,
   ⟨(.some 27), (.bin .leq (.t 26) (.c (.d (.int .i64 3)))), .none⟩,
   ⟨(.some 4), (.mov (.t 27)), .none⟩])
 .ret)
abbrev c28_0 : PCode :=
 (.seq (.seq (.region [⟨(.some 7), (.faddr 2 (.t 2)), .none⟩,
   ⟨(.some 8), (.load .false 1 (.t 7) .false), .none⟩,
   ⟨(.some 9), (.len (.t 8)), .none⟩,
   ⟨(.some 10), (.mov (.c (.d (.int .i64 0)))), .none⟩])
 c28_1)
 c28_6)
def c28 : PFun := ⟨
 (.seq (.region [⟨(.some 2), (.box 3 (.t 0)), .none⟩,
   ⟨(.some 4), (.mov (.c (.d (.bool .false)))), .none⟩])
 c28_0),
 2, 28, [(.tmp 4)]⟩

/-- (prompter/prompterlaw05.Small).Light -/
abbrev c14_5 : PCode :=
 (.seq (.region [⟨(.some 2), (.mov (.c (.d (.bool .false)))), .none⟩])
 .ret)
abbrev c14_4 : PCode :=
 (.cond (.t 16)
  c14_5
  .skip)
abbrev c14_3 : PCode :=
 (.keep [1, 4, 8, 9, 10] (.seq (.region [⟨(.some 14), (.load .true 3 (.t 4) .false), .none⟩,
   ⟨(.some 15), (.call0 28 [(.t 14), (.c (.d (.int .i64 3)))]), .none⟩,
   ⟨(.some 16), (.not (.t 15)), .none⟩])
 c14_4))
abbrev c14_2 : PCode :=
 (.block 1 (.seq (.region [⟨(.some 12), (.iaddr 3 (.t 8) (.t 10)), .none⟩,
   ⟨(.some 13), (.load .true 3 (.t 12) .false), .none⟩,
   ⟨(.some 4), (.alloc [(.d (.int .u8 0)), (.d (.int .u8 0)), (.full [])]), .none⟩,
   ⟨.none, (.store 3 (.t 4) (.t 13)), .none⟩])
 c14_3))
abbrev c14_1 : PCode :=
 (.keep [1, 8, 9, 10] (.block 0 (.loop (.some [10, 1, 8, 9]) (.seq (.region [⟨(.some 11), (.bin .lss (.t 10) (.t 9)), .none⟩])
 (.seq (.cond (.t 11)
  .skip
  (.exit 0))
 (.seq c14_2
 (.region [⟨(.some 17), (.bin .add (.t 10) (.c (.d (.int .i64 1)))), .none⟩,
   ⟨(.some 10), (.mov (.t 17)), .none⟩])))))))
abbrev c14_11 : PCode :=
 (.seq (.region [⟨(.some 2), (.mov (.c (.d (.bool .false)))), .none⟩])
 .ret)
abbrev c14_10 : PCode :=
 (.cond (.t 34)
  c14_11
  .skip)
abbrev c14_9 : PCode :=
 (.keep [1, 6, 19, 20, 21] (.seq (.region [⟨(.some 25), (.faddr 0 (.t 6)), .none⟩,
   ⟨(.some 26), (.load .true 3 (.t 25) .false), .none⟩,
   ⟨(.some 27), (.call0 28 [(.t 26), (.c (.d (.int .i64 3)))]), .none⟩,
   ⟨(.some 28), (.not (.t 27)), .none⟩,
   ⟨(.some 29), (.mov (.t 28)), .none⟩,
   ⟨(.some 30), (.faddr 3 (.t 6)), (.some (29, .false))⟩,
   ⟨(.some 31), (.load .true 3 (.t 30) .false), (.some (29, .false))⟩,
   ⟨(.some 32), (.call0 28 [(.t 31), (.c (.d (.int .i64 3)))]), (.some (29, .false))⟩,
   ⟨(.some 33), (.not (.t 32)), (.some (29, .false))⟩,
   ⟨(.some 34), (.pick (.t 29) (.c (.d (.bool .true))) (.t 33)), .none⟩])
 c14_10))
abbrev c14_8 : PCode :=
 (.block 3 (.seq (.region [⟨(.some 23), (.iaddr 8 (.t 19) (.t 21)), .none⟩,
   ⟨(.some 24), (.load .true 8 (.t 23) .false), .none⟩,
   ⟨(.some 6), (.alloc [(.d (.int .u8 0)), (.d (.int .u8 0)), (.full []), (.d (.int .u8 0)), (.d (.int .u8 0)), (.full []), (.d (.int .u8 0)), (.d (.int .u16 0))]), .none⟩,
   ⟨.none, (.store 8 (.t 6) (.t 24)), .none⟩])
 c14_9))
abbrev c14_7 : PCode :=
 (.keep [1, 19, 20, 21] (.block 2 (.loop (.some [21, 1, 19, 20]) (.seq (.region [⟨(.some 22), (.bin .lss (.t 21) (.t 20)), .none⟩])
 (.seq (.cond (.t 22)
  .skip
  (.exit 2))
 (.seq c14_8
 (.region [⟨(.some 35), (.bin .add (.t 21) (.c (.d (.int .i64 1)))), .none⟩,
   ⟨(.some 21), (.mov (.t 35)), .none⟩])))))))
abbrev c14_12 : PCode :=
 (.seq (.region [⟨(.some 36), (.faddr 1 (.t 1)), .none⟩,
   ⟨(.some 37), (.load .false 1 (.t 36) .false), .none⟩,
   ⟨(.some 38), (.len (.t 37)), .none⟩,
   ⟨(.some 39), (.bin .leq (.t 38) (.c (.d (.int .i64 10)))), .none⟩,
   ⟨(.some 40), (.mov (.t 39)), .none⟩,
   ⟨(.some 41), (.faddr 3 (.t 1)), (.some (40, .true))⟩,
   ⟨(.some 42), (.load .false 1 (.t 41) .false), (.some (40, .true))⟩,
   ⟨(.some 43), (.len (.t 42)), (.some (40, .true))⟩,
   ⟨(.some 44), (.bin .leq (.t 43) (.c (.d (.int .i64 10)))), (.some (40, .true))⟩,
   ⟨(.some 45), (.pick (.t 40) (.t 44) (.c (.d (.bool .false)))), .none⟩,
   ⟨(.some 2), (.mov (.t 45)), .none⟩])
 .ret)
abbrev c14_6 : PCode :=
 (.seq (.seq (.region [⟨(.some 18), (.faddr 3 (.t 1)), .none⟩,
   ⟨(.some 19), (.load .false 1 (.t 18) .false), .none⟩,
   ⟨(.some 20), (.len (.t 19)), .none⟩,
   ⟨(.some 21), (.mov (.c (.d (.int .i64 0)))), .none⟩])
 c14_7)
 c14_12)
abbrev c14_0 : PCode :=
 (.seq (.seq (.region [⟨(.some 7), (.faddr 1 (.t 1)), .none⟩,
   ⟨(.some 8), (.load .false 1 (.t 7) .false), .none⟩,
   ⟨(.some 9), (.len (.t 8)), .none⟩,
   ⟨(.some 10), (.mov (.c (.d (.int .i64 0)))), .none⟩])
 c14_1)
 c14_6)
def c14 : PFun := ⟨
 (.seq (.region [⟨(.some 1), (.box 4 (.t 0)), .none⟩,
   ⟨(.some 2), (.mov (.c (.d (.bool .false)))), .none⟩])
 c14_0),
 1, 46, [(.tmp 2)]⟩

/-- prompter/prompterlaw05.Name -/
abbrev c31_0 : PCode :=
 (.seq (.region [⟨(.some 5), (.mov (.t 0)), .none⟩,
   ⟨(.some 6), (.bin .rem (.t 5) (.c (.d (.int .i64 26)))), .none⟩,
   ⟨(.some 7), (.bin .add (.c (.d (.int .i64 97))) (.t 6)), .none⟩,
   ⟨(.some 8), (.cvt .u8 (.t 7)), .none⟩,
   ⟨(.some 9), (.mov (.t 1)), .none⟩,
   ⟨(.some 10), (.bin .rem (.t 9) (.c (.d (.int .u8 26)))), .none⟩,
   ⟨(.some 11), (.bin .add (.c (.d (.int .u8 65))) (.t 10)), .none⟩,
   ⟨(.some 12), (.mov (.t 0)), .none⟩,
   ⟨(.some 13), (.bin .quo (.t 12) (.c (.d (.int .i64 26)))), .none⟩,
   ⟨(.some 14), (.bin .rem (.t 13) (.c (.d (.int .i64 10)))), .none⟩,
   ⟨(.some 15), (.bin .add (.c (.d (.int .i64 48))) (.t 14)), .none⟩,
   ⟨(.some 16), (.cvt .u8 (.t 15)), .none⟩,
   ⟨(.some 17), (.bsl 1 [(.t 8), (.t 11), (.t 16)]), .none⟩,
   ⟨(.some 18), (.strOf (.t 17)), .none⟩,
   ⟨(.some 4), (.mov (.t 18)), .none⟩])
 .ret)
def c31 : PFun := ⟨
 (.seq (.region [⟨(.some 4), (.mov (.c (.d (.str (bs []))))), .none⟩])
 c31_0),
 2, 19, [(.tmp 4)]⟩

theorem e28 : entered Tryd.prog 28 = true := by kernel_rfl
theorem k28 : compFun Tryd.prog (fun _ => 0) 28 = some c28.er := by kernel_rfl
theorem e14 : entered Tryd.prog 14 = true := by kernel_rfl
theorem k14 : compFun Tryd.prog (fun _ => 0) 14 = some c14.er := by kernel_rfl
theorem e31 : entered Tryd.prog 31 = true := by kernel_rfl
theorem k31 : compFun Tryd.prog (fun _ => 0) 31 = some c31.er := by kernel_rfl


theorem C28 (x : Nd) : ∀ (deep : Int), x.fit → 0 ≤ deep ∧ deep ≤ 1000 → Pure (PCalls Tryd.prog GK) 28 [x.av, .d (.int .i64 deep)] (b2 (x.light deep)) := by
  induction x using Nd.ind' with
  | h x ih =>
  intro deep hf hd
  rw [Nd.fit_eq] at hf
  obtain ⟨hk, hn, ho, hf⟩ := hf
  rw [Nd.light_eq]
  intro st; refine pcalls_of k28 e28 (of_decide_eq_true rfl) ?_; dsimp only [c28]; refine pstartL ?_; intro t hL; generalize hQ : pfin _ _ = Q
  refine gor hL ?_; (repeat (clear hL; intro t hL; refine gor hL ?_))
  (refine gor hL ?_; (repeat (clear hL; intro t hL; refine gor hL ?_))); refine po_boxA hL ?_; clear hL; intro p1 t hL
  refine gor hL ?_; (repeat (clear hL; intro t hL; refine gor hL ?_))
  (apply prangeK hL (x.of.length) (by omega) (fun k => (k = 0 ∨ 1 ≤ deep) ∧ (x.of.take k).all (fun x => x.light (deep - 1)) = true)); (· exact trimA); (· exact fun _ => rfl)
  · exact ⟨.inl rfl, rfl⟩
  · intro t hL hI
    rw [List.take_length] at hI
    refine gor hL ?_; (repeat (clear hL; intro t hL; refine gor hL ?_))
    rw [← hQ]
    refine pfin_pure (congrArg (fun z => some (b2 z)) ?_) hL.le
    have : (x.of.isEmpty || decide (1 ≤ deep) && x.of.all fun x => x.light (deep - 1)) = true := by
      rcases hI with ⟨h1, h2⟩
      rcases h1 with h1 | h1
      · simp [List.eq_nil_of_length_eq_zero h1]
      · simp [h1, h2]
    rw [this, Bool.true_and]
    rw [decide_eq_decide]; omega
  · intro k hk t hL hI
    obtain ⟨y, hy, hm⟩ := elem_at hk
    refine pblock ?_
    refine gor hL ?_; (repeat (clear hL; intro t hL; refine gor hL ?_))
    (refine gor hL ?_; (repeat (clear hL; intro t hL; refine gor hL ?_))); (with_reducible refine po_allocL hL rfl ?_); clear hL; intro p2 t hL
    refine gor hL ?_; (repeat (clear hL; intro t hL; refine gor hL ?_))
    refine gnm ?_; rw [IntWalk.i64_in (deep - 1) (by omega)]
    ((with_reducible apply po_g); (· exact gwt); (· (intro hw; refine does_call0 ?_ (ih y hm (deep - 1) (hf y hm) (by simp at hw; omega)); exact gargs hw)))
    refine gor hL ?_; (repeat (clear hL; intro t hL; refine gor hL ?_))
    have hsn := take_snoc hy
    refine pcond_b rfl (fun h1 => ?_) (fun h1 => ?_)
    · refine gor hL ?_; (repeat (clear hL; intro t hL; refine gor hL ?_))
      rw [← hQ]
      refine pfin_pure (congrArg (fun z => some (b2 z)) ?_) hL.le
      simp only [Bool.or_eq_true, decide_eq_true_eq, Bool.not_eq_true'] at h1
      have hne : x.of.isEmpty = false := by cases hx : x.of with | nil => rw [hx] at hm; cases hm | cons => rfl
      rw [hne, Bool.false_or]
      rcases h1 with h1 | h1
      · simp [show ¬ 1 ≤ deep by omega]
      · rw [List.all_eq_false.2 ⟨y, hm, by simp [h1]⟩]; simp
    · refine gor hL ?_; (repeat (clear hL; intro t hL; refine gor hL ?_))
      refine ⟨hL.pk, ?_, tr2⟩
      simp only [Bool.or_eq_false_iff, decide_eq_false_iff_not, Bool.not_eq_false'] at h1
      refine ⟨.inr (by omega), ?_⟩
      rw [hsn, List.all_append, hI.2]
      simp [h1.2]

theorem C14 (x : Sm) (hf : x.fit) : Pure (PCalls Tryd.prog GK) 14 [x.av] (b2 x.light) := by
  have hf1 := hf.many
  have hf2 := hf.many'
  intro st; refine pcalls_of k14 e14 (of_decide_eq_true rfl) ?_; dsimp only [c14]; refine pstartL ?_; intro t hL; generalize hQ : pfin _ _ = Q
  refine gor hL ?_; (repeat (clear hL; intro t hL; refine gor hL ?_))
  (refine gor hL ?_; (repeat (clear hL; intro t hL; refine gor hL ?_))); refine po_boxA hL ?_; clear hL; intro p1 t hL
  refine gor hL ?_; (repeat (clear hL; intro t hL; refine gor hL ?_))
  (apply prangeK hL (x.aliases.length) (by omega) (fun k => (x.aliases.take k).all (fun x => x.light 3) = true)); (· exact trimA); (· exact fun _ => rfl)
  · rfl
  · intro t hL hI
    rw [List.take_length] at hI
    refine gor hL ?_; (repeat (clear hL; intro t hL; refine gor hL ?_))
    (apply prangeK hL (x.procs.length) (by omega) (fun k => (x.procs.take k).all (fun p => p.takes.light 3 && p.answers.light 3) = true)); (· exact trimA); (· exact fun _ => rfl)
    · rfl
    · intro t hL hI'
      rw [List.take_length] at hI'
      refine gor hL ?_; (repeat (clear hL; intro t hL; refine gor hL ?_))
      rw [← hQ]
      refine pfin_pure (congrArg (fun z => some (b2 z)) ?_) hL.le
      rw [Sm.light, hI, hI']
      simp only [Bool.true_and]
      congr 1 <;> (rw [decide_eq_decide]; omega)
    · intro k hk t hL hI'
      obtain ⟨y, hy, hm⟩ := elem_at hk
      have hfy := hf.procs y hm
      refine pblock ?_
      refine gor hL ?_; (repeat (clear hL; intro t hL; refine gor hL ?_))
      (refine gor hL ?_; (repeat (clear hL; intro t hL; refine gor hL ?_))); (with_reducible refine po_allocL hL rfl ?_); clear hL; intro p2 t hL
      refine gor hL ?_; (repeat (clear hL; intro t hL; refine gor hL ?_))
      refine po_call rfl (C28 y.takes 3 hfy.1 (by decide)) (fun _ _ h => False.elim h) ?_
      refine gor hL ?_; (repeat (clear hL; intro t hL; refine gor hL ?_))
      ((with_reducible apply po_g); (· exact gwt); (· (intro hw; refine does_call0 ?_ (C28 y.answers 3 hfy.2.1 (by decide)); exact gargs hw)))
      refine gor hL ?_; (repeat (clear hL; intro t hL; refine gor hL ?_))
      have hsn := take_snoc hy
      refine pcond_b rfl (fun h1 => ?_) (fun h1 => ?_)
      · refine gor hL ?_; (repeat (clear hL; intro t hL; refine gor hL ?_))
        rw [← hQ]
        refine pfin_pure (congrArg (fun z => some (b2 z)) ?_) hL.le
        have : x.procs.all (fun p => p.takes.light 3 && p.answers.light 3) = false := List.all_eq_false.2 ⟨y, hm, by
          simp at h1 ⊢
          intro h
          rcases h1 with h1 | h1
          · rw [h] at h1; cases h1
          · exact h1⟩
        rw [Sm.light, this]
        simp
      · refine gor hL ?_; (repeat (clear hL; intro t hL; refine gor hL ?_))
        refine ⟨hL.pk, ?_, tr2⟩
        rw [hsn, List.all_append, hI']
        simp at h1
        simp [h1.1, h1.2]
  · intro k hk t hL hI
    obtain ⟨y, hy, hm⟩ := elem_at hk
    refine pblock ?_
    refine gor hL ?_; (repeat (clear hL; intro t hL; refine gor hL ?_))
    (refine gor hL ?_; (repeat (clear hL; intro t hL; refine gor hL ?_))); (with_reducible refine po_allocL hL rfl ?_); clear hL; intro p2 t hL
    refine gor hL ?_; (repeat (clear hL; intro t hL; refine gor hL ?_))
    refine po_call rfl (C28 y 3 (hf.aliases y hm) (by decide)) (fun _ _ h => False.elim h) ?_
    refine gor hL ?_; (repeat (clear hL; intro t hL; refine gor hL ?_))
    have hsn := take_snoc hy
    refine pcond_b rfl (fun h1 => ?_) (fun h1 => ?_)
    · refine gor hL ?_; (repeat (clear hL; intro t hL; refine gor hL ?_))
      rw [← hQ]
      refine pfin_pure (congrArg (fun z => some (b2 z)) ?_) hL.le
      have : x.aliases.all (fun x => x.light 3) = false := List.all_eq_false.2 ⟨y, hm, by simpa using h1⟩
      rw [Sm.light, this]
      simp
    · refine gor hL ?_; (repeat (clear hL; intro t hL; refine gor hL ?_))
      refine ⟨hL.pk, ?_, tr2⟩
      rw [hsn, List.all_append, hI]
      simp at h1
      simp [h1]
end Go.Pv
namespace Go.Pv
open Go.Proofs
set_option maxRecDepth 100000
set_option maxHeartbeats 4000000

/-- (prompter/prompterlaw05.Node).Type$1 -/
abbrev c58_2 : PCode :=
 (.seq (.region [⟨(.some 10), (.mov (.t 0)), .none⟩,
   ⟨(.some 11), (.bin .rem (.t 10) (.c (.d (.int .i64 4)))), .none⟩,
   ⟨(.some 12), (.cvt .u8 (.t 11)), .none⟩,
   ⟨(.some 13), (.bld [(.d (.int .u8 0)), (.d (.int .i64 0)), (.full []), (.full [])] [(0, (1, (.t 12)))]), .none⟩,
   ⟨.none, (.store 4 (.t 5) (.t 13)), .none⟩])
 .ret)
abbrev c58_1 : PCode :=
 (.cond (.t 9)
  c58_2
  .skip)
abbrev c58_3 : PCode :=
 (.keep [0, 1, 2, 3, 5] (.seq (.region [⟨(.some 14), (.faddr 2 (.t 1)), .none⟩,
   ⟨(.some 15), (.load .false 1 (.t 14) .false), .none⟩,
   ⟨(.some 16), (.mov (.t 0)), .none⟩,
   ⟨(.some 17), (.faddr 2 (.t 1)), .none⟩,
   ⟨(.some 18), (.load .false 1 (.t 17) .false), .none⟩,
   ⟨(.some 19), (.len (.t 18)), .none⟩,
   ⟨(.some 20), (.bin .rem (.t 16) (.t 19)), .none⟩,
   ⟨(.some 21), (.iaddr 3 (.t 15) (.t 20)), .none⟩,
   ⟨(.some 22), (.load .true 3 (.t 21) .false), .none⟩,
   ⟨(.some 23), (.load .false 1 (.t 2) .false), .none⟩,
   ⟨(.some 24), (.bin .sub (.t 23) (.c (.d (.int .i64 1)))), .none⟩,
   ⟨(.some 25), (.load .false 1 (.t 3) .false), .none⟩,
   ⟨(.some 26), (.call0 29 [(.t 22), (.t 24), (.t 25)]), .none⟩,
   ⟨.none, (.store 4 (.t 5) (.t 26)), .none⟩])
 .ret))
abbrev c58_0 : PCode :=
 (.seq (.seq (.region [⟨(.some 6), (.faddr 2 (.t 1)), .none⟩,
   ⟨(.some 7), (.load .false 1 (.t 6) .false), .none⟩,
   ⟨(.some 8), (.len (.t 7)), .none⟩,
   ⟨(.some 9), (.bin .eql (.t 8) (.c (.d (.int .i64 0)))), .none⟩])
 c58_1)
 c58_3)
def c58 : PFun := ⟨
 (.seq (.region [⟨(.some 5), (.alloc [(.d (.int .u8 0)), (.d (.int .i64 0)), (.full []), (.full [])]), .none⟩])
 c58_0),
 4, 27, [(.cell 5 .true 4)]⟩

/-- (prompter/prompterlaw05.Node).Type -/
abbrev c29_3 : PCode :=
 (.region [⟨(.some 7), (.mov (.c (.d (.int .u8 1)))), .none⟩])
abbrev c29_2 : PCode :=
 (.cond (.t 36)
  c29_3
  .skip)
abbrev c29_9 : PCode :=
 (.region [⟨(.some 43), (.faddr 1 (.t 3)), .none⟩,
   ⟨(.some 44), (.load .false 1 (.t 43) .false), .none⟩,
   ⟨(.some 45), (.bin .rem (.t 44) (.c (.d (.int .u8 60)))), .none⟩,
   ⟨(.some 46), (.cvt .i64 (.t 45)), .none⟩,
   ⟨(.some 47), (.bin .add (.c (.d (.int .i64 1))) (.t 46)), .none⟩,
   ⟨(.some 48), (.faddr 1 (.t 9)), .none⟩,
   ⟨.none, (.store 1 (.t 48) (.t 47)), .none⟩])
abbrev c29_12 : PCode :=
 (.region [⟨(.some 51), (.faddr 1 (.t 3)), .none⟩,
   ⟨(.some 52), (.load .false 1 (.t 51) .false), .none⟩,
   ⟨(.some 53), (.bin .rem (.t 52) (.c (.d (.int .u8 60)))), .none⟩,
   ⟨(.some 54), (.cvt .i64 (.t 53)), .none⟩,
   ⟨(.some 55), (.bin .add (.c (.d (.int .i64 1))) (.t 54)), .none⟩,
   ⟨(.some 56), (.mov (.t 8)), .none⟩,
   ⟨(.some 57), (.callvp (.t 56) [(.c (.d (.int .i64 0)))]), .none⟩,
   ⟨(.some 58), (.bsl 4 [(.t 57)]), .none⟩,
   ⟨(.some 59), (.faddr 1 (.t 9)), .none⟩,
   ⟨.none, (.store 1 (.t 59) (.t 55)), .none⟩,
   ⟨(.some 60), (.faddr 3 (.t 9)), .none⟩,
   ⟨.none, (.store 1 (.t 60) (.t 58)), .none⟩])
abbrev c29_17 : PCode :=
 (.region [⟨(.some 64), (.bin .eql (.t 40) (.c (.d (.int .u8 7)))), .none⟩,
   ⟨(.some 61), (.mov (.t 64)), .none⟩])
abbrev c29_16 : PCode :=
 (.cond (.t 61)
  .skip
  c29_17)
abbrev c29_15 : PCode :=
 (.seq (.region [⟨(.some 63), (.bin .eql (.t 40) (.c (.d (.int .u8 8)))), .none⟩,
   ⟨(.some 61), (.mov (.t 63)), .none⟩])
 c29_16)
abbrev c29_14 : PCode :=
 (.cond (.t 61)
  .skip
  c29_15)
abbrev c29_25 : PCode :=
 (.region [⟨(.some 84), (.faddr 3 (.t 9)), .none⟩,
   ⟨(.some 85), (.load .false 1 (.t 84) .false), .none⟩,
   ⟨(.some 86), (.mov (.t 8)), .none⟩,
   ⟨(.some 87), (.mov (.t 10)), .none⟩,
   ⟨(.some 88), (.callvp (.t 86) [(.t 87)]), .none⟩,
   ⟨(.some 89), (.bsl 4 [(.t 88)]), .none⟩,
   ⟨(.some 90), (.app 4 64 (.t 85) (.t 89)), .none⟩,
   ⟨(.some 91), (.faddr 3 (.t 9)), .none⟩,
   ⟨.none, (.store 1 (.t 91) (.t 90)), .none⟩])
abbrev c29_24 : PCode :=
 (.cond (.t 83)
  c29_25
  .skip)
abbrev c29_23 : PCode :=
 (.keep [3, 6, 7, 8, 9, 10, 69, 70] (.seq (.region [⟨(.some 82), (.mov (.t 7)), .none⟩,
   ⟨(.some 83), (.bin .neq (.t 82) (.c (.d (.int .u8 7)))), .none⟩])
 c29_24))
abbrev c29_22 : PCode :=
 (.seq (.region [⟨(.some 73), (.faddr 2 (.t 9)), .none⟩,
   ⟨(.some 74), (.load .false 1 (.t 73) .false), .none⟩,
   ⟨(.some 75), (.mov (.t 10)), .none⟩,
   ⟨(.some 76), (.faddr 1 (.t 3)), .none⟩,
   ⟨(.some 77), (.load .false 1 (.t 76) .false), .none⟩,
   ⟨(.some 78), (.callp 31 [(.t 75), (.t 77)]), .none⟩,
   ⟨(.some 79), (.bsl 1 [(.t 78)]), .none⟩,
   ⟨(.some 80), (.app 1 16 (.t 74) (.t 79)), .none⟩,
   ⟨(.some 81), (.faddr 2 (.t 9)), .none⟩,
   ⟨.none, (.store 1 (.t 81) (.t 80)), .none⟩])
 c29_23)
abbrev c29_21 : PCode :=
 (.block 2 (.seq (.region [⟨(.some 72), (.mov (.t 70)), .none⟩,
   ⟨(.some 10), (.mov (.t 72)), .none⟩])
 c29_22))
abbrev c29_20 : PCode :=
 (.keep [3, 6, 7, 8, 9, 69, 70] (.block 1 (.loop (.some [70, 3, 6, 7, 8, 9, 69]) (.seq (.region [⟨(.some 71), (.bin .lss (.t 70) (.t 69)), .none⟩])
 (.seq (.cond (.t 71)
  .skip
  (.exit 1))
 (.seq c29_21
 (.region [⟨(.some 92), (.bin .add (.t 70) (.c (.d (.int .i64 1)))), .none⟩,
   ⟨(.some 70), (.mov (.t 92)), .none⟩])))))))
abbrev c29_19 : PCode :=
 (.seq (.region [⟨(.some 65), (.faddr 1 (.t 3)), .none⟩,
   ⟨(.some 66), (.load .false 1 (.t 65) .false), .none⟩,
   ⟨(.some 67), (.bin .rem (.t 66) (.c (.d (.int .u8 3)))), .none⟩,
   ⟨(.some 68), (.cvt .i64 (.t 67)), .none⟩,
   ⟨(.some 69), (.bin .add (.c (.d (.int .i64 1))) (.t 68)), .none⟩,
   ⟨(.some 70), (.mov (.c (.d (.int .i64 0)))), .none⟩])
 c29_20)
abbrev c29_28 : PCode :=
 (.region [⟨(.some 95), (.load .false 1 (.t 5) .false), .none⟩,
   ⟨(.some 96), (.faddr 1 (.t 3)), .none⟩,
   ⟨(.some 97), (.load .false 1 (.t 96) .false), .none⟩,
   ⟨(.some 98), (.cvt .i64 (.t 97)), .none⟩,
   ⟨(.some 99), (.load .false 1 (.t 5) .false), .none⟩,
   ⟨(.some 100), (.len (.t 99)), .none⟩,
   ⟨(.some 101), (.bin .rem (.t 98) (.t 100)), .none⟩,
   ⟨(.some 102), (.iaddr 1 (.t 95) (.t 101)), .none⟩,
   ⟨(.some 103), (.load .false 1 (.t 102) .false), .none⟩,
   ⟨(.some 104), (.bsl 1 [(.t 103)]), .none⟩,
   ⟨(.some 105), (.faddr 2 (.t 9)), .none⟩,
   ⟨.none, (.store 1 (.t 105) (.t 104)), .none⟩])
abbrev c29_27 : PCode :=
 (.cond (.t 93)
  c29_28
  .skip)
abbrev c29_26 : PCode :=
 (.seq (.region [⟨(.some 94), (.bin .eql (.t 40) (.c (.d (.int .u8 9)))), .none⟩,
   ⟨(.some 93), (.mov (.t 94)), .none⟩])
 c29_27)
abbrev c29_18 : PCode :=
 (.keep [3, 5, 6, 7, 8, 9, 40, 61] (.cond (.t 61)
  c29_19
  c29_26))
abbrev c29_13 : PCode :=
 (.seq (.seq (.region [⟨(.some 62), (.bin .eql (.t 40) (.c (.d (.int .u8 6)))), .none⟩,
   ⟨(.some 61), (.mov (.t 62)), .none⟩])
 c29_14)
 c29_18)
abbrev c29_11 : PCode :=
 (.cond (.t 49)
  c29_12
  c29_13)
abbrev c29_10 : PCode :=
 (.seq (.region [⟨(.some 50), (.bin .eql (.t 40) (.c (.d (.int .u8 5)))), .none⟩,
   ⟨(.some 49), (.mov (.t 50)), .none⟩])
 c29_11)
abbrev c29_8 : PCode :=
 (.cond (.t 41)
  c29_9
  c29_10)
abbrev c29_7 : PCode :=
 (.block 0 (.seq (.region [⟨(.some 42), (.bin .eql (.t 40) (.c (.d (.int .u8 4)))), .none⟩,
   ⟨(.some 41), (.mov (.t 42)), .none⟩])
 c29_8))
abbrev c29_29 : PCode :=
 (.keep [6, 9] (.seq (.region [⟨(.some 106), (.load .true 4 (.t 9) .false), .none⟩,
   ⟨.none, (.store 4 (.t 6) (.t 106)), .none⟩])
 .ret))
abbrev c29_6 : PCode :=
 (.keep [3, 5, 6, 7, 8, 9] (.seq (.seq (.region [⟨(.some 40), (.mov (.t 7)), .none⟩])
 c29_7)
 c29_29))
abbrev c29_5 : PCode :=
 (.seq (.region [⟨(.some 38), (.mov (.t 7)), .none⟩,
   ⟨(.some 39), (.bld [(.d (.int .u8 0)), (.d (.int .i64 0)), (.full []), (.full [])] [(0, (1, (.t 38)))]), .none⟩,
   ⟨(.some 9), (.alloc [(.d (.int .u8 0)), (.d (.int .i64 0)), (.full []), (.full [])]), .none⟩,
   ⟨.none, (.store 4 (.t 9) (.t 39)), .none⟩])
 c29_6)
abbrev c29_4 : PCode :=
 (.keep [3, 4, 5, 6, 7] (.seq (.region [⟨(.some 37), (.mkfn 58 [] [(.t 3), (.t 4), (.t 5)]), .none⟩,
   ⟨(.some 8), (.mov (.t 37)), .none⟩])
 c29_5))
abbrev c29_1 : PCode :=
 (.keep [3, 4, 5, 6, 7] (.seq (.seq (.region [⟨(.some 14), (.mov (.t 7)), .none⟩,
   ⟨(.some 15), (.bin .eql (.t 14) (.c (.d (.int .u8 9)))), .none⟩,
   ⟨(.some 16), (.mov (.t 15)), .none⟩,
   ⟨(.some 17), (.load .false 1 (.t 5) .false), (.some (16, .true))⟩,
   ⟨(.some 18), (.len (.t 17)), (.some (16, .true))⟩,
   ⟨(.some 19), (.bin .eql (.t 18) (.c (.d (.int .i64 0)))), (.some (16, .true))⟩,
   ⟨(.some 20), (.pick (.t 16) (.t 19) (.c (.d (.bool .false)))), .none⟩,
   ⟨(.some 21), (.mov (.t 20)), .none⟩,
   ⟨(.some 22), (.load .false 1 (.t 4) .false), (.some (21, .false))⟩,
   ⟨(.some 23), (.bin .leq (.t 22) (.c (.d (.int .i64 1)))), (.some (21, .false))⟩,
   ⟨(.some 24), (.mov (.t 23)), (.some (21, .false))⟩,
   ⟨(.some 25), (.mov (.t 7)), (.some (24, .true))⟩,
   ⟨(.some 26), (.bin .eql (.t 25) (.c (.d (.int .u8 5)))), (.some (24, .true))⟩,
   ⟨(.some 27), (.mov (.t 26)), (.some (24, .true))⟩,
   ⟨(.some 28), (.mov (.t 7)), (.some (27, .false))⟩,
   ⟨(.some 29), (.bin .eql (.t 28) (.c (.d (.int .u8 6)))), (.some (27, .false))⟩,
   ⟨(.some 30), (.pick (.t 27) (.c (.d (.bool .true))) (.t 29)), (.some (24, .true))⟩,
   ⟨(.some 31), (.mov (.t 30)), (.some (24, .true))⟩,
   ⟨(.some 32), (.mov (.t 7)), (.some (31, .false))⟩,
   ⟨(.some 33), (.bin .eql (.t 32) (.c (.d (.int .u8 8)))), (.some (31, .false))⟩,
   ⟨(.some 34), (.pick (.t 31) (.c (.d (.bool .true))) (.t 33)), (.some (24, .true))⟩,
   ⟨(.some 35), (.pick (.t 24) (.t 34) (.c (.d (.bool .false)))), (.some (21, .false))⟩,
   ⟨(.some 36), (.pick (.t 21) (.c (.d (.bool .true))) (.t 35)), .none⟩])
 c29_2)
 c29_4))
abbrev c29_0 : PCode :=
 (.keep [3, 4, 5, 6] (.seq (.region [⟨(.some 11), (.faddr 0 (.t 3)), .none⟩,
   ⟨(.some 12), (.load .false 1 (.t 11) .false), .none⟩,
   ⟨(.some 13), (.bin .rem (.t 12) (.c (.d (.int .u8 10)))), .none⟩,
   ⟨(.some 7), (.mov (.t 13)), .none⟩])
 c29_1))
def c29 : PFun := ⟨
 (.seq (.region [⟨(.some 3), (.box 3 (.t 0)), .none⟩,
   ⟨(.some 4), (.box 1 (.t 1)), .none⟩,
   ⟨(.some 5), (.box 1 (.t 2)), .none⟩,
   ⟨(.some 6), (.alloc [(.d (.int .u8 0)), (.d (.int .i64 0)), (.full []), (.full [])]), .none⟩])
 c29_0),
 3, 107, [(.cell 6 .true 4)]⟩

theorem e58 : entered Tryd.prog 58 = true := by kernel_rfl
theorem k58 : compFun Tryd.prog (fun _ => 0) 58 = some c58.er := by kernel_rfl
theorem e29 : entered Tryd.prog 29 = true := by kernel_rfl
theorem k29 : compFun Tryd.prog (fun _ => 1) 29 = some c29.er := by kernel_rfl


theorem C31 (i : Nat) (n : Int) (hi : i < 2 ^ 60) (hn : 0 ≤ n ∧ n ≤ 255) : Pure (PCalls Tryd.prog GK) 31 [i64 i, .d (.int .u8 n)] (.d (.str (nameOf i n))) := by
  intro st; refine pcalls_of k31 e31 (of_decide_eq_true rfl) ?_; dsimp only [c31]; refine pstartL ?_; intro t hL; generalize hQ : pfin _ _ = Q
  refine gor hL ?_; (repeat (clear hL; intro t hL; refine gor hL ?_))
  rw [← hQ]
  refine pfin_pure (congrArg (fun z => some (AV.d (Dat.str z))) ?_) hL.le
  have e1 := IntWalk.rem_in (i : Int) 26 (by omega)
  have e2 := IntWalk.rem_in n 26 (by omega)
  have e3 : (i : Int).tdiv 26 = ((i / 26 : Nat) : Int) := by rw [Int.tdiv_eq_ediv_of_nonneg (by omega)]; omega
  have e4 := IntWalk.rem_in ((i / 26 : Nat) : Int) 10 (by omega)
  simp only [nameOf, bs, List.map_cons, List.map_nil]
  rw [e1, e2, e3, IntWalk.i64_in ((i / 26 : Nat) : Int) (by omega), e4, IntWalk.i64_in _ (by omega), IntWalk.i64_in _ (by omega), IntWalk.u8_in _ (by omega), IntWalk.u8_in _ (by omega), IntWalk.u8_in _ (by omega)]
  have f1 : (97 + (i : Int) % 26).toNat = 97 + i % 26 := by omega
  have f2 : (48 + ((i / 26 : Nat) : Int) % 10).toNat = 48 + i / 26 % 10 := by omega
  rw [f1, f2]

theorem nodeSub (d : Nat) (x : Nd) (known : List ByteArray) (hd : d + 1 ≤ 1000) (hx : x.fit) (IH : ∀ y : Nd, y.fit → Pure (PCalls Tryd.prog GK) 29 [y.av, i64 d, .d (strs known)] (Nd.typ d y known).av)
    (i : Nat) (hi : i < 2 ^ 60) {st : St} {p3 p4 p5 : Nat} (h3 : st.box p3 = some [.d (.int .u8 x.kind), .d (.int .u8 x.n), .d (.sl (x.of.map Nd.row))]) (h4 : st.box p4 = some [i64 (d + 1 : Nat)]) (h5 : st.box p5 = some [.d (strs known)]) :
    PureAt (PCalls Tryd.prog GK) st 58 [i64 i, ptrAt p3, ptrAt p4, ptrAt p5] (Nd.subW (fun y => Nd.typ d y known) x i).av := by
  rw [Nd.fit_eq] at hx
  obtain ⟨hk, hn, ho, hf⟩ := hx
  refine pcalls_of k58 e58 (of_decide_eq_true rfl) ?_; dsimp only [c58]
  refine pstartL ?_; intro t hL; generalize hQ : pfin _ _ = Q
  (refine gor hL ?_; (repeat (clear hL; intro t hL; refine gor hL ?_))); (with_reducible refine po_allocL hL rfl ?_); clear hL; intro p6 t hL
  refine gor hL ?_; (repeat (clear hL; intro t hL; refine gor hL ?_))
  refine pcond_b rfl (fun h1 => ?_) (fun h1 => ?_)
  · have h1' : x.of = [] := List.eq_nil_of_length_eq_zero (by simpa using h1)
    refine gor hL ?_; (repeat (clear hL; intro t hL; refine gor hL ?_))
    rw [← hQ]
    refine pwk1 hL ?_
    rw [KT.av_eq, Nd.subW, h1']
    simp [AV.weak, AV.weak1, KT.kind, KT.most, KT.names, KT.of]
    rw [IntWalk.rem_in _ _ (by omega), IntWalk.u8_in _ (by omega)]
  · have h1' : x.of.length ≠ 0 := by simpa using h1
    have hj : i % x.of.length < x.of.length := Nat.mod_lt _ (by omega)
    obtain ⟨y, hy, hm⟩ := elem_at hj
    refine gor hL ?_; (repeat (clear hL; intro t hL; refine gor hL ?_))
    refine po_remN rfl rfl h1' ?_
    refine gor hL ?_; (repeat (clear hL; intro t hL; refine gor hL ?_))
    refine gnm ?_; rw [IntWalk.i64_in (((d + 1 : Nat) : Int) - 1) (by omega), show ((d + 1 : Nat) : Int) - 1 = d by omega]
    refine po_call rfl (IH y (hf y hm)) (fun _ _ h => False.elim h) ?_
    rw [KT.av_eq]
    refine gor hL ?_; (repeat (clear hL; intro t hL; refine gor hL ?_))
    rw [← hQ]
    refine pwk1 hL ?_
    rw [Nd.subW, hy, KT.av_eq]
    rfl

theorem nodeType (D : Nat) (x : Nd) (known : List ByteArray) (sub : Nat → KT) (hD : D ≤ 1000) (hx : x.fit) (hkn : known.length < 2 ^ 48)
    (hsub : (x.kd D known = 5 ∨ x.kd D known = 6 ∨ x.kd D known = 8) → ∀ (i : Nat) (t : St) (p3 p4 p5 : Nat), i < 2 ^ 60 → t.box p3 = some [.d (.int .u8 x.kind), .d (.int .u8 x.n), .d (.sl (x.of.map Nd.row))] → t.box p4 = some [i64 D] → t.box p5 = some [.d (strs known)] →
      PureAt (PCalls Tryd.prog GK) t 58 [i64 i, ptrAt p3, ptrAt p4, ptrAt p5] (sub i).av) :
    Pure (PCalls Tryd.prog GK) 29 [x.av, i64 D, .d (strs known)] (x.typW (x.kd D known) known sub).av := by
  have hxf := hx
  rw [Nd.fit_eq] at hx
  obtain ⟨hk, hn, ho, hf⟩ := hx
  have hkd := Nd.kd_ge (t := x) (deep := D) (known := known)
  have hknown := Nd.kd_known (t := x) (deep := D) (known := known)
  intro st; refine pcalls_of k29 e29 (of_decide_eq_true rfl) ?_; dsimp only [c29]; refine pstartL ?_; intro t hL; generalize hQ : pfin _ _ = Q
  (refine gor hL ?_; (repeat (clear hL; intro t hL; refine gor hL ?_))); refine po_boxA hL ?_; clear hL; intro p3 t hL
  (refine gor hL ?_; (repeat (clear hL; intro t hL; refine gor hL ?_))); refine po_boxA hL ?_; clear hL; intro p4 t hL
  (refine gor hL ?_; (repeat (clear hL; intro t hL; refine gor hL ?_))); refine po_boxA hL ?_; clear hL; intro p5 t hL
  (refine gor hL ?_; (repeat (clear hL; intro t hL; refine gor hL ?_))); (with_reducible refine po_allocL hL rfl ?_); clear hL; intro p6 t hL
  refine gor hL ?_; (repeat (clear hL; intro t hL; refine gor hL ?_))
  refine pselK ?_
  refine gor hL ?_; (repeat (clear hL; intro t hL; refine gor hL ?_))
  refine ⟨_, rfl, ?_⟩
  have hval : (if (x.kind.tmod 10 == 9 && (known.length : Int) == 0 || decide ((D : Int) ≤ 1) && (x.kind.tmod 10 == 5 || x.kind.tmod 10 == 6 || x.kind.tmod 10 == 8)) = true then (AV.d (.int .u8 1)) else AV.d (.int .u8 (x.kind.tmod 10))) = AV.d (.int .u8 (x.kd D known)) := by
    rw [IntWalk.rem_in _ _ (by omega), Nd.kd]
    by_cases h : (x.kind % 10 = 9 ∧ known.length = 0) ∨ (D ≤ 1 ∧ (x.kind % 10 = 5 ∨ x.kind % 10 = 6 ∨ x.kind % 10 = 8))
    · rw [if_pos h, if_pos]
      simp only [Bool.or_eq_true, Bool.and_eq_true, beq_iff_eq, decide_eq_true_eq]
      omega
    · rw [if_neg h, if_neg]
      simp only [Bool.or_eq_true, Bool.and_eq_true, beq_iff_eq, decide_eq_true_eq]
      omega
  refine gnm ?_; rw [hval]
  clear hval
  generalize x.kd D known = kk at *
  (refine gor hL ?_; (repeat (clear hL; intro t hL; refine gor hL ?_))); (with_reducible refine po_allocL hL rfl ?_); clear hL; intro p9 t hL
  refine gor hL ?_; (repeat (clear hL; intro t hL; refine gor hL ?_))
  refine pseqk ?_
  refine gor hL ?_; (repeat (clear hL; intro t hL; refine gor hL ?_))
  refine pcond_b rfl (fun h4 => ?_) (fun h4 => ?_)
  · have h4' : kk = 4 := by simpa using h4
    subst h4'
    refine gor hL ?_; (repeat (clear hL; intro t hL; refine gor hL ?_))
    rw [← hQ]
    refine pwk1 hL ?_
    rw [KT.av_eq, Nd.typW, if_pos rfl]
    simp [AV.weak, AV.weak1, KT.kind, KT.most, KT.names, KT.of]
    rw [IntWalk.rem_in _ _ (by omega), IntWalk.i64_in (x.n % 60) (by omega), IntWalk.i64_in _ (by omega)]
  have h4' : kk ≠ 4 := by simpa using h4
  refine gor hL ?_; (repeat (clear hL; intro t hL; refine gor hL ?_))
  refine pcond_b rfl (fun h5 => ?_) (fun h5 => ?_)
  · have h5' : kk = 5 := by simpa using h5
    subst h5'
    refine gor hL ?_; (repeat (clear hL; intro t hL; refine gor hL ?_))
    refine po_callvp rfl rfl (hsub (.inl rfl) 0 t p3 p4 p5 (by decide) (hL.bk) (hL.bk) (hL.bk)) ?_
    rw [KT.av_eq]
    refine gor hL ?_; (repeat (clear hL; intro t hL; refine gor hL ?_))
    rw [← hQ]
    refine pwk1 hL ?_
    rw [KT.av_eq, Nd.typW, if_neg (by decide), if_pos rfl]
    simp [AV.weak, AV.weak1, KT.kind, KT.most, KT.names, KT.of, KT.row_eq, KT.cs]
    rw [IntWalk.rem_in _ _ (by omega), IntWalk.i64_in (x.n % 60) (by omega), IntWalk.i64_in _ (by omega)]
  have h5' : kk ≠ 5 := by simpa using h5
  refine gor hL ?_; (repeat (clear hL; intro t hL; refine gor hL ?_))
  refine pjoin (fun s u => u = t ∧ s = put (put (put (put (put (put (put (put (fun _ => .undef) (some 61) (b2 (decide (kk = 6 ∨ kk = 8 ∨ kk = 7)))) (some 40) (.d (.int .u8 kk))) (some 9) (ptrAt p9)) (some 8) (.d (.fn 58 [] [.ptr p3 0, .ptr p4 0, .ptr p5 0]))) (some 7) (.d (.int .u8 kk))) (some 6) (ptrAt p6)) (some 5) (ptrAt p5)) (some 3) (ptrAt p3)) ?_ ?_
  · refine gor hL ?_; (repeat (clear hL; intro t hL; refine gor hL ?_))
    refine pcond_b rfl (fun h6 => ?_) (fun h6 => ?_)
    · obtain rfl : kk = 6 := by simpa using h6
      refine gor hL ?_; (repeat (clear hL; intro t hL; refine gor hL ?_))
      exact ⟨tr2, tr2⟩
    · have h6' : kk ≠ 6 := by simpa using h6
      refine gor hL ?_; (repeat (clear hL; intro t hL; refine gor hL ?_))
      refine pcond_b rfl (fun h8 => ?_) (fun h8 => ?_)
      · obtain rfl : kk = 8 := by simpa using h8
        refine gor hL ?_; (repeat (clear hL; intro t hL; refine gor hL ?_))
        exact ⟨tr2, tr2⟩
      · have h8' : kk ≠ 8 := by simpa using h8
        refine gor hL ?_; (repeat (clear hL; intro t hL; refine gor hL ?_))
        refine ⟨tr2, ?_⟩
        rw [show decide (kk = 6 ∨ kk = 8 ∨ kk = 7) = (kk == 7) by rw [Bool.eq_iff_iff]; simp; omega]
        rfl
  rintro s u ⟨rfl, rfl⟩
  refine pcond_b rfl (fun h678 => ?_) (fun h678 => ?_)
  · have h678' : kk = 6 ∨ kk = 8 ∨ kk = 7 := by simpa using h678
    have hmany : x.many < 10 := by unfold Nd.many; omega
    have hm2 : IntKind.i64.wrap (1 + IntKind.i64.wrap (x.n.tmod 3)) = (x.many : Int) := by
      rw [IntWalk.rem_in _ _ (by omega), IntWalk.i64_in (x.n % 3) (by omega), IntWalk.i64_in _ (by omega), Nd.many]; omega
    refine gor hL ?_; (repeat (clear hL; intro t hL; refine gor hL ?_))
    refine gnm ?_; rw [hm2]
    have hlenN : ∀ k, ∀ r ∈ ((List.range k).map fun i => [Dat.str (nameOf i x.n)]), r.length = 1 := fun k r hr => by
      obtain ⟨i, _, rfl⟩ := List.mem_map.1 hr; rfl
    have hlenO : ∀ k, ∀ r ∈ (if kk = 7 then [] else (List.range k).map fun i => (sub i).row), r.length = 4 := fun k r hr => by
      split at hr
      · cases hr
      · obtain ⟨i, _, rfl⟩ := List.mem_map.1 hr; exact KT.row_len _
    (apply prangeJ (x.many) (by omega) (fun k t => ∃ vN vO, VF vN ((List.range k).map fun i => [Dat.str (nameOf i x.n)]) ∧ VF vO (if kk = 7 then [] else (List.range k).map fun i => (sub i).row) ∧ Lay st [.box p9 [.d (.int .u8 kk), .d (.int .i64 0), vN, vO], .vec vN ((List.range k).map fun i => [Dat.str (nameOf i x.n)]) 1, .vec vO (if kk = 7 then [] else (List.range k).map fun i => (sub i).row) 4, .box p6 [.d (.int .u8 0), .d (.int .i64 0), .full [], .full []], .box p5 [.d (strs known)], .box p4 [i64 D], .box p3 [.d (.int .u8 x.kind), .d (.int .u8 x.n), .d (.sl (x.of.map Nd.row))]] t)); (· exact trimA); (· exact fun _ => rfl)
    · refine ⟨.full [], .full [], ?_⟩
      simp only [List.range_zero, List.map_nil, ite_self]
      exact ⟨VF.full _, VF.full _, ((hL.full [] 4).full [] 1).pk⟩
    · rintro t ⟨vN, vO, fN, fO, hL⟩
      obtain ⟨fN_r, fN_w, fN_w1, fN_c, fN_s, fN_d⟩ := id fN
      obtain ⟨fO_r, fO_w, fO_w1, fO_c, fO_s, fO_d⟩ := id fO
      refine gor hL ?_; (repeat (clear hL; intro t hL; refine gor hL ?_))
      refine gor hL ?_; (repeat (clear hL; intro t hL; refine gor hL ?_))
      rw [← hQ]
      refine pwk1 hL ?_
      rw [KT.av_eq, Nd.typW, if_neg h4', if_neg h5']
      simp only [pvwk, fN_w1, fO_w1]
      by_cases h7 : kk = 7
      · rw [if_neg (show ¬ (kk = 6 ∨ kk = 8) by omega), if_pos h7]
        simp only [ktp, h7, if_true, List.map_map, List.map_nil]
        rfl
      · rw [if_pos (show kk = 6 ∨ kk = 8 by omega)]
        simp only [ktp, h7, if_false, List.map_map]
        rfl
    · rintro k hk t ⟨vN, vO, fN, fO, hL⟩
      obtain ⟨fN_r, fN_w, fN_w1, fN_c, fN_s, fN_d⟩ := id fN
      obtain ⟨fO_r, fO_w, fO_w1, fO_c, fO_s, fO_d⟩ := id fO
      refine gor hL ?_; (repeat (clear hL; intro t hL; refine gor hL ?_))
      refine po_callp rfl (C31 k x.n (by omega) hn) ?_
      refine gor hL ?_; (repeat (clear hL; intro t hL; refine gor hL ?_))
      refine po_appA hL (hlenN k) ?_ ?_; (· simp; omega); clear hL; intro vN' t fN' hL; obtain ⟨fN'_r, fN'_w, fN'_w1, fN'_c, fN'_s, fN'_d⟩ := id fN'
      rw [show ((List.range k).map fun i => [Dat.str (nameOf i x.n)]) ++ [[Dat.str (nameOf k x.n)]] = (List.range (k + 1)).map fun i => [Dat.str (nameOf i x.n)] by rw [List.range_succ, List.map_append]; rfl] at fN' hL fN'_r fN'_w fN'_w1
      refine gor hL ?_; (repeat (clear hL; intro t hL; refine gor hL ?_))
      refine pcond_b rfl (fun h7 => ?_) (fun h7 => ?_)
      · have h7' : kk ≠ 7 := by simpa using h7
        rw [if_neg h7'] at fO hL fO_r fO_w fO_w1
        simp only [if_neg h7'] at hlenO
        refine gor hL ?_; (repeat (clear hL; intro t hL; refine gor hL ?_))
        refine po_callvp rfl rfl (hsub (by omega) k t p3 p4 p5 (by omega) (hL.bk) (hL.bk) (hL.bk)) ?_
        rw [KT.av_eq]
        refine gor hL ?_; (repeat (clear hL; intro t hL; refine gor hL ?_))
        refine po_appA hL (hlenO k) ?_ ?_; (· simp; omega); clear hL; intro vO' t fO' hL; obtain ⟨fO'_r, fO'_w, fO'_w1, fO'_c, fO'_s, fO'_d⟩ := id fO'
        have hr' : ((List.range k).map fun i => (sub i).row) ++ [(sub k).row] = (List.range (k + 1)).map fun i => (sub i).row := by rw [List.range_succ, List.map_append]; rfl
        rw [KT.row_eq] at hr'
        simp only [KT.cs] at hr'
        rw [hr'] at fO' hL
        refine gor hL ?_; (repeat (clear hL; intro t hL; refine gor hL ?_))
        refine ⟨⟨vN', vO', fN', ?_, ?_⟩, tr2⟩
        · rw [if_neg h7']; exact fO'
        · rw [if_neg h7']; exact hL.pk
      · obtain rfl : kk = 7 := by simpa using h7
        rw [if_pos rfl] at fO hL fO_r fO_w fO_w1
        refine gor hL ?_; (repeat (clear hL; intro t hL; refine gor hL ?_))
        refine ⟨⟨vN', vO, fN', ?_, ?_⟩, tr2⟩
        · rw [if_pos (by trivial)]; exact fO
        · rw [if_pos (by trivial)]; exact hL.pk
  · have h678' : ¬ (kk = 6 ∨ kk = 8 ∨ kk = 7) := by simpa using h678
    refine gor hL ?_; (repeat (clear hL; intro t hL; refine gor hL ?_))
    refine pcond_b rfl (fun h9 => ?_) (fun h9 => ?_)
    · obtain rfl : kk = 9 := by simpa using h9
      have hn0 := hknown rfl
      have hxn : x.n = ((x.n.toNat : Nat) : Int) := by omega
      have hj : x.n.toNat % known.length < known.length := Nat.mod_lt _ (by omega)
      obtain ⟨y, hy, hm⟩ := elem_at hj
      refine gor hL ?_; (repeat (clear hL; intro t hL; refine gor hL ?_))
      refine gnm ?_; rw [IntWalk.i64_in x.n (by omega), hxn]
      refine po_remN rfl rfl hn0 ?_
      refine gor hL ?_; (repeat (clear hL; intro t hL; refine gor hL ?_))
      rw [← hQ]
      refine pwk1 hL ?_
      rw [KT.av_eq, Nd.typW, if_neg (by decide), if_neg (by decide), if_neg (by decide), if_neg (by decide), if_pos rfl]
      simp [AV.weak, AV.weak1, KT.kind, KT.most, KT.names, KT.of, hy]
    · have h9' : kk ≠ 9 := by simpa using h9
      refine gor hL ?_; (repeat (clear hL; intro t hL; refine gor hL ?_))
      rw [← hQ]
      refine pwk1 hL ?_
      rw [KT.av_eq, Nd.typW, if_neg h4', if_neg h5', if_neg (by omega), if_neg (by omega), if_neg h9']
      rfl

theorem C29 : ∀ (d : Nat) (x : Nd) (known : List ByteArray), d ≤ 1000 → x.fit → known.length < 2 ^ 48 → Pure (PCalls Tryd.prog GK) 29 [x.av, i64 d, .d (strs known)] (Nd.typ d x known).av := by
  intro d
  induction d with
  | zero =>
    intro x known hd hx hk
    exact nodeType 0 x known (fun _ => .mk 0 0 [] []) hd hx hk fun h => by have := Nd.kd_deep h; omega
  | succ d ih =>
    intro x known hd hx hk
    exact nodeType (d + 1) x known (Nd.subW (fun y => Nd.typ d y known) x) hd hx hk fun _ i t p3 p4 p5 hi h3 h4 h5 =>
      nodeSub d x known hd hx (fun y hy => ih y known (by omega) hy hk) i hi h3 h4 h5
end Go.Pv
namespace Go.Pv
open Go.Proofs
set_option maxRecDepth 100000
set_option maxHeartbeats 4000000

/-- prompter/prompterlaw05.Table -/
abbrev c15_9 : PCode :=
 (.region [⟨(.some 42), (.mov (.t 4)), .none⟩,
   ⟨(.some 43), (.mov (.t 7)), .none⟩,
   ⟨(.some 44), (.bsl 1 [(.t 43)]), .none⟩,
   ⟨(.some 45), (.app 1 16 (.t 42) (.t 44)), .none⟩,
   ⟨(.some 4), (.mov (.t 45)), .none⟩])
abbrev c15_8 : PCode :=
 (.keep [1, 2, 3, 4, 6, 7, 20, 21, 22] (.seq (.region [⟨(.some 32), (.faddr 3 (.t 3)), .none⟩,
   ⟨(.some 33), (.load .false 1 (.t 32) .false), .none⟩,
   ⟨(.some 34), (.mov (.t 7)), .none⟩,
   ⟨(.some 35), (.load .true 3 (.t 6) .false), .none⟩,
   ⟨(.some 36), (.mov (.t 4)), .none⟩,
   ⟨(.some 37), (.callp 29 [(.t 35), (.c (.d (.int .i64 3))), (.t 36)]), .none⟩,
   ⟨(.some 38), (.bld [(.d (.str (bs []))), (.d (.int .u8 0)), (.d (.int .i64 0)), (.full []), (.full [])] [(0, (1, (.t 34))), (1, (4, (.t 37)))]), .none⟩,
   ⟨(.some 39), (.bsl 5 [(.t 38)]), .none⟩,
   ⟨(.some 40), (.app 5 80 (.t 33) (.t 39)), .none⟩,
   ⟨(.some 41), (.faddr 3 (.t 3)), .none⟩,
   ⟨.none, (.store 1 (.t 41) (.t 40)), .none⟩])
 c15_9))
abbrev c15_7 : PCode :=
 (.seq (.region [⟨(.some 29), (.mov (.t 5)), .none⟩,
   ⟨(.some 30), (.callp 31 [(.t 29), (.c (.d (.int .u8 3)))]), .none⟩,
   ⟨(.some 31), (.bin .add (.c (.d (.str (bs [84])))) (.t 30)), .none⟩,
   ⟨(.some 7), (.mov (.t 31)), .none⟩])
 c15_8)
abbrev c15_6 : PCode :=
 (.cond (.t 28)
  c15_7
  .skip)
abbrev c15_5 : PCode :=
 (.keep [1, 2, 3, 4, 5, 6, 20, 21, 22] (.seq (.region [⟨(.some 27), (.mov (.t 5)), .none⟩,
   ⟨(.some 28), (.bin .lss (.t 27) (.c (.d (.int .i64 4)))), .none⟩])
 c15_6))
abbrev c15_4 : PCode :=
 (.block 1 (.seq (.region [⟨(.some 24), (.mov (.t 22)), .none⟩,
   ⟨(.some 25), (.iaddr 3 (.t 20) (.t 22)), .none⟩,
   ⟨(.some 26), (.load .true 3 (.t 25) .false), .none⟩,
   ⟨(.some 6), (.alloc [(.d (.int .u8 0)), (.d (.int .u8 0)), (.full [])]), .none⟩,
   ⟨(.some 5), (.mov (.t 24)), .none⟩,
   ⟨.none, (.store 3 (.t 6) (.t 26)), .none⟩])
 c15_5))
abbrev c15_3 : PCode :=
 (.keep [1, 2, 3, 4, 20, 21, 22] (.block 0 (.loop (.some [22, 4, 1, 2, 3, 20, 21]) (.seq (.region [⟨(.some 23), (.bin .lss (.t 22) (.t 21)), .none⟩])
 (.seq (.cond (.t 23)
  .skip
  (.exit 0))
 (.seq c15_4
 (.region [⟨(.some 46), (.bin .add (.t 22) (.c (.d (.int .i64 1)))), .none⟩,
   ⟨(.some 22), (.mov (.t 46)), .none⟩])))))))
abbrev c15_13 : PCode :=
 (.region [⟨(.some 54), (.faddr 4 (.t 3)), .none⟩,
   ⟨(.some 55), (.load .false 1 (.t 54) .false), .none⟩,
   ⟨(.some 56), (.mov (.t 8)), .none⟩,
   ⟨(.some 57), (.callp 31 [(.t 56), (.c (.d (.int .u8 5)))]), .none⟩,
   ⟨(.some 58), (.bin .add (.c (.d (.str (bs [69])))) (.t 57)), .none⟩,
   ⟨(.some 59), (.mov (.t 8)), .none⟩,
   ⟨(.some 60), (.bin .mul (.c (.d (.int .i64 10))) (.t 59)), .none⟩,
   ⟨(.some 61), (.bld [(.d (.str (bs []))), (.d (.int .i64 0))] [(0, (1, (.t 58))), (1, (1, (.t 60)))]), .none⟩,
   ⟨(.some 62), (.bsl 2 [(.t 61)]), .none⟩,
   ⟨(.some 63), (.app 2 24 (.t 55) (.t 62)), .none⟩,
   ⟨(.some 64), (.faddr 4 (.t 3)), .none⟩,
   ⟨.none, (.store 1 (.t 64) (.t 63)), .none⟩])
abbrev c15_12 : PCode :=
 (.block 3 (.seq (.region [⟨(.some 53), (.mov (.t 51)), .none⟩,
   ⟨(.some 8), (.mov (.t 53)), .none⟩])
 c15_13))
abbrev c15_11 : PCode :=
 (.keep [1, 2, 3, 4, 50, 51] (.block 2 (.loop (.some [51, 1, 2, 3, 4, 50]) (.seq (.region [⟨(.some 52), (.bin .lss (.t 51) (.t 50)), .none⟩])
 (.seq (.cond (.t 52)
  .skip
  (.exit 2))
 (.seq c15_12
 (.region [⟨(.some 65), (.bin .add (.t 51) (.c (.d (.int .i64 1)))), .none⟩,
   ⟨(.some 51), (.mov (.t 65)), .none⟩])))))))
abbrev c15_19 : PCode :=
 (.region [⟨(.some 76), (.faddr 5 (.t 3)), .none⟩,
   ⟨(.some 77), (.load .false 1 (.t 76) .false), .none⟩,
   ⟨(.some 78), (.mov (.t 9)), .none⟩,
   ⟨(.some 79), (.callp 31 [(.t 78), (.c (.d (.int .u8 7)))]), .none⟩,
   ⟨(.some 80), (.bin .add (.c (.d (.str (bs [80])))) (.t 79)), .none⟩,
   ⟨(.some 81), (.mov (.t 9)), .none⟩,
   ⟨(.some 82), (.faddr 0 (.t 1)), .none⟩,
   ⟨(.some 83), (.load .false 1 (.t 82) .false), .none⟩,
   ⟨(.some 84), (.bin .rem (.t 83) (.c (.d (.int .u16 9)))), .none⟩,
   ⟨(.some 85), (.cvt .i64 (.t 84)), .none⟩,
   ⟨(.some 86), (.bin .add (.t 81) (.t 85)), .none⟩,
   ⟨(.some 87), (.faddr 0 (.t 10)), .none⟩,
   ⟨(.some 88), (.load .true 3 (.t 87) .false), .none⟩,
   ⟨(.some 89), (.mov (.t 4)), .none⟩,
   ⟨(.some 90), (.callp 29 [(.t 88), (.c (.d (.int .i64 3))), (.t 89)]), .none⟩,
   ⟨(.some 91), (.faddr 3 (.t 10)), .none⟩,
   ⟨(.some 92), (.load .true 3 (.t 91) .false), .none⟩,
   ⟨(.some 93), (.mov (.t 4)), .none⟩,
   ⟨(.some 94), (.callp 29 [(.t 92), (.c (.d (.int .i64 3))), (.t 93)]), .none⟩,
   ⟨(.some 95), (.faddr 6 (.t 10)), .none⟩,
   ⟨(.some 96), (.load .false 1 (.t 95) .false), .none⟩,
   ⟨(.some 97), (.bin .rem (.t 96) (.c (.d (.int .u8 3)))), .none⟩,
   ⟨(.some 98), (.faddr 7 (.t 10)), .none⟩,
   ⟨(.some 99), (.load .false 1 (.t 98) .false), .none⟩,
   ⟨(.some 100), (.bin .rem (.t 99) (.c (.d (.int .u16 1000)))), .none⟩,
   ⟨(.some 101), (.cvt .i64 (.t 100)), .none⟩,
   ⟨(.some 102), (.bin .add (.c (.d (.int .i64 1))) (.t 101)), .none⟩,
   ⟨(.some 103), (.bld [(.d (.str (bs []))), (.d (.int .i64 0)), (.d (.int .u8 0)), (.d (.int .i64 0)), (.full []), (.full []), (.d (.int .u8 0)), (.d (.int .i64 0)), (.full []), (.full []), (.d (.int .u8 0)), (.d (.int .i64 0))] [(0, (1, (.t 80))), (1, (1, (.t 86))), (2, (4, (.t 90))), (6, (4, (.t 94))), (10, (1, (.t 97))), (11, (1, (.t 102)))]), .none⟩,
   ⟨(.some 104), (.bsl 12 [(.t 103)]), .none⟩,
   ⟨(.some 105), (.app 12 168 (.t 77) (.t 104)), .none⟩,
   ⟨(.some 106), (.faddr 5 (.t 3)), .none⟩,
   ⟨.none, (.store 1 (.t 106) (.t 105)), .none⟩])
abbrev c15_18 : PCode :=
 (.cond (.t 75)
  c15_19
  .skip)
abbrev c15_17 : PCode :=
 (.keep [1, 2, 3, 4, 9, 10, 67, 68, 69] (.seq (.region [⟨(.some 74), (.mov (.t 9)), .none⟩,
   ⟨(.some 75), (.bin .lss (.t 74) (.c (.d (.int .i64 4)))), .none⟩])
 c15_18))
abbrev c15_16 : PCode :=
 (.block 5 (.seq (.region [⟨(.some 71), (.mov (.t 69)), .none⟩,
   ⟨(.some 72), (.iaddr 8 (.t 67) (.t 69)), .none⟩,
   ⟨(.some 73), (.load .true 8 (.t 72) .false), .none⟩,
   ⟨(.some 10), (.alloc [(.d (.int .u8 0)), (.d (.int .u8 0)), (.full []), (.d (.int .u8 0)), (.d (.int .u8 0)), (.full []), (.d (.int .u8 0)), (.d (.int .u16 0))]), .none⟩,
   ⟨(.some 9), (.mov (.t 71)), .none⟩,
   ⟨.none, (.store 8 (.t 10) (.t 73)), .none⟩])
 c15_17))
abbrev c15_15 : PCode :=
 (.keep [1, 2, 3, 4, 67, 68, 69] (.block 4 (.loop (.some [69, 1, 2, 3, 4, 67, 68]) (.seq (.region [⟨(.some 70), (.bin .lss (.t 69) (.t 68)), .none⟩])
 (.seq (.cond (.t 70)
  .skip
  (.exit 4))
 (.seq c15_16
 (.region [⟨(.some 107), (.bin .add (.t 69) (.c (.d (.int .i64 1)))), .none⟩,
   ⟨(.some 69), (.mov (.t 107)), .none⟩])))))))
abbrev c15_20 : PCode :=
 (.seq (.region [⟨(.some 108), (.load .true 6 (.t 3) .false), .none⟩,
   ⟨.none, (.store 6 (.t 2) (.t 108)), .none⟩])
 .ret)
abbrev c15_14 : PCode :=
 (.seq (.seq (.region [⟨(.some 66), (.faddr 3 (.t 1)), .none⟩,
   ⟨(.some 67), (.load .false 1 (.t 66) .false), .none⟩,
   ⟨(.some 68), (.len (.t 67)), .none⟩,
   ⟨(.some 69), (.mov (.c (.d (.int .i64 0)))), .none⟩])
 c15_15)
 c15_20)
abbrev c15_10 : PCode :=
 (.seq (.seq (.region [⟨(.some 47), (.faddr 2 (.t 1)), .none⟩,
   ⟨(.some 48), (.load .false 1 (.t 47) .false), .none⟩,
   ⟨(.some 49), (.bin .rem (.t 48) (.c (.d (.int .u8 4)))), .none⟩,
   ⟨(.some 50), (.cvt .i64 (.t 49)), .none⟩,
   ⟨(.some 51), (.mov (.c (.d (.int .i64 0)))), .none⟩])
 c15_11)
 c15_14)
abbrev c15_2 : PCode :=
 (.seq (.seq (.region [⟨(.some 19), (.faddr 1 (.t 1)), .none⟩,
   ⟨(.some 20), (.load .false 1 (.t 19) .false), .none⟩,
   ⟨(.some 21), (.len (.t 20)), .none⟩,
   ⟨(.some 22), (.mov (.c (.d (.int .i64 0)))), .none⟩])
 c15_3)
 c15_10)
abbrev c15_1 : PCode :=
 (.keep [1, 2, 3] (.seq (.region [⟨(.some 4), (.mov (.c (.full []))), .none⟩])
 c15_2))
abbrev c15_0 : PCode :=
 (.seq (.region [⟨(.some 11), (.faddr 0 (.t 1)), .none⟩,
   ⟨(.some 12), (.load .false 1 (.t 11) .false), .none⟩,
   ⟨(.some 13), (.cvt .i64 (.t 12)), .none⟩,
   ⟨(.some 14), (.faddr 0 (.t 1)), .none⟩,
   ⟨(.some 15), (.load .false 1 (.t 14) .false), .none⟩,
   ⟨(.some 16), (.cvt .i64 (.t 15)), .none⟩,
   ⟨(.some 17), (.bin .rem (.t 16) (.c (.d (.int .i64 7)))), .none⟩,
   ⟨(.some 18), (.bld [(.d (.str (bs []))), (.d (.int .i64 0)), (.d (.int .i64 0)), (.full []), (.full []), (.full [])] [(0, (1, (.c (.d (.str (bs [102, 97, 99, 101])))))), (1, (1, (.t 13))), (2, (1, (.t 17)))]), .none⟩,
   ⟨(.some 3), (.alloc [(.d (.str (bs []))), (.d (.int .i64 0)), (.d (.int .i64 0)), (.full []), (.full []), (.full [])]), .none⟩,
   ⟨.none, (.store 6 (.t 3) (.t 18)), .none⟩])
 c15_1)
def c15 : PFun := ⟨
 (.seq (.region [⟨(.some 1), (.box 4 (.t 0)), .none⟩,
   ⟨(.some 2), (.alloc [(.d (.str (bs []))), (.d (.int .i64 0)), (.d (.int .i64 0)), (.full []), (.full []), (.full [])]), .none⟩])
 c15_0),
 1, 109, [(.cell 2 .true 6)]⟩

theorem e15 : entered Tryd.prog 15 = true := by kernel_rfl
theorem k15 : compFun Tryd.prog (fun _ => 1) 15 = some c15.er := by kernel_rfl


theorem tableL (s : Sm) (hf : s.fit) : CL (PCalls Tryd.prog GK) 15 [s.av] [] (fun a : AV × AV × AV => .agg [.d (.str face), .d (.int .i64 s.number), .d (.int .i64 (s.number % 7)), a.1, a.2.1, a.2.2])
    (fun a => [.vec a.1 (((List.range s.as).map s.al).map Al.row) 5, .vec a.2.1 (((List.range s.fs).map flOf).map Fl.row) 2, .vec a.2.2 (((List.range s.ps).map s.pc).map Pc.row) 12]) := by
  refine ⟨Sat.vecs3 _ _ _ _ _ _ _, ?_⟩
  have hnum := hf.number
  have hfa := hf.faults
  have hm1 := hf.many
  have hm2 := hf.many'
  have hlenK : ∀ k, ∀ r ∈ srows (known k), r.length = 1 := fun k => srows_one
  have hlenT : ∀ k, ∀ r ∈ ((List.range k).map s.al).map Al.row, r.length = 5 := fun k r hr => by
    obtain ⟨i, _, rfl⟩ := List.mem_map.1 hr; exact Al.row_len _
  have hlenF : ∀ k, ∀ r ∈ ((List.range k).map flOf).map Fl.row, r.length = 2 := fun k r hr => by
    obtain ⟨i, _, rfl⟩ := List.mem_map.1 hr; rfl
  have hlenP : ∀ k, ∀ r ∈ ((List.range k).map s.pc).map Pc.row, r.length = 12 := fun k r hr => by
    obtain ⟨i, _, rfl⟩ := List.mem_map.1 hr; rfl
  intro st t hL; refine pcalls_of k15 e15 (of_decide_eq_true rfl) ?_; dsimp only [c15]; generalize hQ : pfin _ _ = Q
  (refine gor hL ?_; (repeat (clear hL; intro t hL; refine gor hL ?_))); refine po_boxA hL ?_; clear hL; intro p1 t hL
  (refine gor hL ?_; (repeat (clear hL; intro t hL; refine gor hL ?_))); (with_reducible refine po_allocL hL rfl ?_); clear hL; intro p2 t hL
  (refine gor hL ?_; (repeat (clear hL; intro t hL; refine gor hL ?_))); (with_reducible refine po_allocL hL rfl ?_); clear hL; intro p3 t hL
  refine gor hL ?_; (repeat (clear hL; intro t hL; refine gor hL ?_))
  have e1 : IntKind.i64.wrap s.number = s.number := IntWalk.i64_in _ (by omega)
  have e2 : (IntKind.i64.wrap s.number).tmod 7 = s.number % 7 := by rw [e1, IntWalk.rem_in _ _ (by omega)]
  rw [e2, e1] at hL
  (apply prangeA (s.aliases.length) (by omega) (fun a z => put z (some 4) a) (fun k a t => ∃ vT, Lay st [.box p3 [.d (.str face), .d (.int .i64 s.number), .d (.int .i64 (s.number % 7)), vT, .full [], .full []], .vec vT (((List.range (min k 4)).map s.al).map Al.row) 5, .vec a (srows (known (min k 4))) 1, .box p2 [.d (.str (bs [])), .d (.int .i64 0), .d (.int .i64 0), .full [], .full [], .full []], .box p1 [.d (.int .u16 s.number), .d (.sl (s.aliases.map Nd.row)), .d (.int .u8 s.faults), .d (.sl (s.procs.map Pr.row))]] t) (.full [])); (· exact trimA); (· exact fun _ _ => rfl)
  · exact ⟨.full [], ((hL.full [] 1).full [] 5).pk⟩
  · rintro vK t ⟨vT, hL⟩
    have fK := hL.vk vK
    have fT := hL.vk vT
    obtain ⟨fK_r, fK_w, fK_w1, fK_c, fK_s, fK_d⟩ := id fK
    obtain ⟨fT_r, fT_w, fT_w1, fT_c, fT_s, fT_d⟩ := id fT
    rw [show min s.aliases.length 4 = s.as from rfl] at *
    have e3 : IntKind.i64.wrap (s.faults.tmod 4) = (s.fs : Int) := by rw [IntWalk.rem_in _ _ (by omega), IntWalk.i64_in _ (by omega), Sm.fs]; omega
    have hfs : s.fs < 4 := by unfold Sm.fs; omega
    refine gor hL ?_; (repeat (clear hL; intro t hL; refine gor hL ?_))
    refine gnm ?_; rw [e3]
    (apply prangeJ (s.fs) (by omega) (fun k t => ∃ vF, Lay st [.box p3 [.d (.str face), .d (.int .i64 s.number), .d (.int .i64 (s.number % 7)), vT, vF, .full []], .vec vT (((List.range s.as).map s.al).map Al.row) 5, .vec vF (((List.range k).map flOf).map Fl.row) 2, .vec vK (srows (known s.as)) 1, .box p2 [.d (.str (bs [])), .d (.int .i64 0), .d (.int .i64 0), .full [], .full [], .full []], .box p1 [.d (.int .u16 s.number), .d (.sl (s.aliases.map Nd.row)), .d (.int .u8 s.faults), .d (.sl (s.procs.map Pr.row))]] t)); (· exact trimA); (· exact fun _ => rfl)
    · exact ⟨.full [], (hL.full [] 2).pk⟩
    · rintro t ⟨vF, hL⟩
      refine gor hL ?_; (repeat (clear hL; intro t hL; refine gor hL ?_))
      (apply prangeJ (s.procs.length) (by omega) (fun k t => ∃ vP, Lay st [.box p3 [.d (.str face), .d (.int .i64 s.number), .d (.int .i64 (s.number % 7)), vT, vF, vP], .vec vT (((List.range s.as).map s.al).map Al.row) 5, .vec vF (((List.range s.fs).map flOf).map Fl.row) 2, .vec vP (((List.range (min k 4)).map s.pc).map Pc.row) 12, .vec vK (srows (known s.as)) 1, .box p2 [.d (.str (bs [])), .d (.int .i64 0), .d (.int .i64 0), .full [], .full [], .full []], .box p1 [.d (.int .u16 s.number), .d (.sl (s.aliases.map Nd.row)), .d (.int .u8 s.faults), .d (.sl (s.procs.map Pr.row))]] t)); (· exact trimA); (· exact fun _ => rfl)
      · exact ⟨.full [], (hL.full [] 12).pk⟩
      · rintro t ⟨vP, hL⟩
        have fF := hL.vk vF
        have fP := hL.vk vP
        obtain ⟨fF_r, fF_w, fF_w1, fF_c, fF_s, fF_d⟩ := id fF
        obtain ⟨fP_r, fP_w, fP_w1, fP_c, fP_s, fP_d⟩ := id fP
        rw [show min s.procs.length 4 = s.ps from rfl] at *
        refine gor hL ?_; (repeat (clear hL; intro t hL; refine gor hL ?_))
        rw [← hQ]
        refine ⟨_, _, t, pret_one (pres_cellL hL rfl Rem.head rfl), .inl rfl, .refl _, (vT, vF, vP), rfl, hL.pk⟩
      · rintro k hk t ⟨vP, hL⟩
        have fF := hL.vk vF
        have fP := hL.vk vP
        obtain ⟨fF_r, fF_w, fF_w1, fF_c, fF_s, fF_d⟩ := id fF
        obtain ⟨fP_r, fP_w, fP_w1, fP_c, fP_s, fP_d⟩ := id fP
        obtain ⟨y, hy, hm⟩ := elem_at hk
        obtain ⟨hy1, hy2, hy3, hy4⟩ := hf.procs y hm
        refine pblock ?_
        (refine gor hL ?_; (repeat (clear hL; intro t hL; refine gor hL ?_))); (with_reducible refine po_allocL hL rfl ?_); clear hL; intro p4 t hL
        refine gor hL ?_; (repeat (clear hL; intro t hL; refine gor hL ?_))
        refine pcond_b rfl (fun h4 => ?_) (fun h4 => ?_)
        · have h4' : k < 4 := by simp at h4; omega
          have hmin : min k 4 = k := by omega
          have hmin' : min (k + 1) 4 = k + 1 := by omega
          rw [hmin] at hL fP_w fP_w1 fP_r
          rw [hmin']
          refine gor hL ?_; (repeat (clear hL; intro t hL; refine gor hL ?_))
          refine po_callp rfl (C31 k 7 (by omega) (by decide)) ?_
          refine gor hL ?_; (repeat (clear hL; intro t hL; refine gor hL ?_))
          rw [show bs [80] ++ nameOf k 7 = pname k from rfl]
          refine gor hL ?_; (repeat (clear hL; intro t hL; refine gor hL ?_))
          refine po_cp (C29 3 y.takes (known s.as) (by decide) hy1 (by simp [known, Sm.as]; omega)) ?_
          rw [KT.av_eq]
          refine gor hL ?_; (repeat (clear hL; intro t hL; refine gor hL ?_))
          refine po_cp (C29 3 y.answers (known s.as) (by decide) hy2 (by simp [known, Sm.as]; omega)) ?_
          rw [KT.av_eq]
          have hpc : s.pc k = ⟨pname k, k + s.number % 9, Nd.typ 3 y.takes (known s.as), Nd.typ 3 y.answers (known s.as), y.collate % 3, 1 + y.timeout % 1000⟩ := by rw [Sm.pc, getD_of hy]
          have e5 : IntKind.i64.wrap (k + IntKind.i64.wrap (s.number.tmod 9)) = k + s.number % 9 := by rw [IntWalk.rem_in _ _ (by omega), IntWalk.i64_in (s.number % 9) (by omega), IntWalk.i64_in _ (by omega)]
          have e6 : IntKind.i64.wrap (1 + IntKind.i64.wrap (y.timeout.tmod 1000)) = 1 + y.timeout % 1000 := by rw [IntWalk.rem_in _ _ (by omega), IntWalk.i64_in (y.timeout % 1000) (by omega), IntWalk.i64_in _ (by omega)]
          have e7 : y.collate.tmod 3 = y.collate % 3 := IntWalk.rem_in _ _ (by omega)
          have hPs : ((List.range k).map s.pc).map Pc.row ++ [(s.pc k).row] = ((List.range (k + 1)).map s.pc).map Pc.row := by
            rw [range_snoc, List.map_append]; rfl
          rw [hpc] at hPs
          simp only [Pc.row] at hPs
          generalize Nd.typ 3 y.takes (known s.as) = ty at *
          generalize Nd.typ 3 y.answers (known s.as) = ty' at *
          refine gor hL ?_; (repeat (clear hL; intro t hL; refine gor hL ?_))
          refine gnm ?_; rw [e5, e6, e7]
          refine po_appA hL (hlenP k) ?_ ?_; (· simp; omega); clear hL; intro vP' t fP' hL; obtain ⟨fP'_r, fP'_w, fP'_w1, fP'_c, fP'_s, fP'_d⟩ := id fP'
          rw [hPs] at fP' hL
          refine gor hL ?_; (repeat (clear hL; intro t hL; refine gor hL ?_))
          exact ⟨⟨_, hL.pk⟩, tr2⟩
        · have h4' : ¬ k < 4 := by simp at h4; omega
          have hmin : min k 4 = 4 := by omega
          have hmin' : min (k + 1) 4 = 4 := by omega
          rw [hmin] at hL
          rw [hmin']
          refine gor hL ?_; (repeat (clear hL; intro t hL; refine gor hL ?_))
          exact ⟨⟨_, hL.pk⟩, tr2⟩
    · rintro k hk t ⟨vF, hL⟩
      have fF := hL.vk vF
      obtain ⟨fF_r, fF_w, fF_w1, fF_c, fF_s, fF_d⟩ := id fF
      refine gor hL ?_; (repeat (clear hL; intro t hL; refine gor hL ?_))
      refine po_callp rfl (C31 k 5 (by omega) (by decide)) ?_
      refine gor hL ?_; (repeat (clear hL; intro t hL; refine gor hL ?_))
      rw [show bs [69] ++ nameOf k 5 = ename k from rfl]
      refine gor hL ?_; (repeat (clear hL; intro t hL; refine gor hL ?_))
      have e4 : IntKind.i64.wrap (10 * (k : Int)) = 10 * k := IntWalk.i64_in _ (by omega)
      refine gnm ?_; rw [e4]
      have hFs : ((List.range k).map flOf).map Fl.row ++ [[.str (ename k), .int .i64 (10 * k)]] = ((List.range (k + 1)).map flOf).map Fl.row := by
        rw [range_snoc, List.map_append]; rfl
      refine po_appA hL (hlenF k) ?_ ?_; (· simp; omega); clear hL; intro vF' t fF' hL; obtain ⟨fF'_r, fF'_w, fF'_w1, fF'_c, fF'_s, fF'_d⟩ := id fF'
      rw [hFs] at fF' hL
      refine gor hL ?_; (repeat (clear hL; intro t hL; refine gor hL ?_))
      exact ⟨⟨_, hL.pk⟩, tr2⟩
  · rintro k hk vK t ⟨vT, hL⟩
    have fK := hL.vk vK
    have fT := hL.vk vT
    obtain ⟨fK_r, fK_w, fK_w1, fK_c, fK_s, fK_d⟩ := id fK
    obtain ⟨fT_r, fT_w, fT_w1, fT_c, fT_s, fT_d⟩ := id fT
    obtain ⟨y, hy, hm⟩ := elem_at hk
    refine pblock ?_
    (refine gor hL ?_; (repeat (clear hL; intro t hL; refine gor hL ?_))); (with_reducible refine po_allocL hL rfl ?_); clear hL; intro p4 t hL
    refine gor hL ?_; (repeat (clear hL; intro t hL; refine gor hL ?_))
    refine pcond_b rfl (fun h4 => ?_) (fun h4 => ?_)
    · have h4' : k < 4 := by simp at h4; omega
      have hmin : min k 4 = k := by omega
      have hmin' : min (k + 1) 4 = k + 1 := by omega
      rw [hmin] at hL fK_w fT_w fK_w1 fT_w1 fT_r fK_r
      rw [hmin']
      refine gor hL ?_; (repeat (clear hL; intro t hL; refine gor hL ?_))
      refine po_callp rfl (C31 k 3 (by omega) (by decide)) ?_
      refine gor hL ?_; (repeat (clear hL; intro t hL; refine gor hL ?_))
      rw [show bs [84] ++ nameOf k 3 = tname k from rfl]
      refine gor hL ?_; (repeat (clear hL; intro t hL; refine gor hL ?_))
      refine po_cp (C29 3 y (known k) (by decide) (hf.aliases y hm) (by simp [known]; omega)) ?_
      rw [KT.av_eq]
      have hal : s.al k = ⟨tname k, Nd.typ 3 y (known k)⟩ := by rw [Sm.al, getD_of hy]
      have hTs : ((List.range k).map s.al).map Al.row ++ [[.str (tname k), .int .u8 (Nd.typ 3 y (known k)).kind, .int .i64 (Nd.typ 3 y (known k)).most, .sl ((Nd.typ 3 y (known k)).names.map fun s => [.str s]), .sl ((Nd.typ 3 y (known k)).of.map KT.row)]] = ((List.range (k + 1)).map s.al).map Al.row := by
        rw [range_snoc, List.map_append, hal, List.map_singleton, Al.row_eq]
      generalize Nd.typ 3 y (known k) = ty at *
      refine gor hL ?_; (repeat (clear hL; intro t hL; refine gor hL ?_))
      refine po_appA hL (hlenT k) ?_ ?_; (· simp; omega); clear hL; intro vT' t fT' hL; obtain ⟨fT'_r, fT'_w, fT'_w1, fT'_c, fT'_s, fT'_d⟩ := id fT'
      rw [hTs] at fT' hL
      refine gor hL ?_; (repeat (clear hL; intro t hL; refine gor hL ?_))
      refine po_appA hL (hlenK k) ?_ ?_; (· simp [srows, known]; omega); clear hL; intro vK' t fK' hL; obtain ⟨fK'_r, fK'_w, fK'_w1, fK'_c, fK'_s, fK'_d⟩ := id fK'
      rw [show srows (known k) ++ [[Dat.str (tname k)]] = srows (known (k + 1)) by rw [srows, srows, known, known, range_snoc, List.map_append]; rfl] at hL
      refine gor hL ?_; (repeat (clear hL; intro t hL; refine gor hL ?_))
      exact ⟨vK', ⟨vT', hL.pk⟩, tr2⟩
    · have h4' : ¬ k < 4 := by simp at h4; omega
      have hmin : min k 4 = 4 := by omega
      have hmin' : min (k + 1) 4 = 4 := by omega
      rw [hmin] at hL
      rw [hmin']
      refine gor hL ?_; (repeat (clear hL; intro t hL; refine gor hL ?_))
      exact ⟨_, ⟨_, hL.pk⟩, tr2⟩

theorem C15 (s : Sm) (hf : s.fit) : Pure (PCalls Tryd.prog GK) 15 [s.av] s.tb.av := by
  refine (tableL s hf).pure ?_
  rintro ⟨vT, vF, vP⟩ st t hL
  have f1 := hL.vk vT
  have f2 := hL.vk vF
  have f3 := hL.vk vP
  simp only [pvwk, f1.weak1, f2.weak1, f3.weak1]
  rfl
end Go.Pv
