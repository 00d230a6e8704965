/- Functions of the program, by value. No condition. -/
import Derived.Test.YtdggkhnelmonkaaDoorR1
import Derived.Test.YtdggkhnelmonkaaDoorProg
namespace Go.Pv
open Go.Proofs
set_option maxRecDepth 100000
set_option maxHeartbeats 4000000

/-- (prompter/prompterlaw05.Node).Light -/
abbrev c28_5 : PCode :=
 (.seq (.region [⟨(.some 4), (.mov (.c (.d (.bool .false)))), .none⟩])
 .ret)
abbrev c28_4 : PCode :=
 (.cond (.t 22)
  c28_5
  .skip)
abbrev c28_3 : PCode :=
 (.keep [1, 2, 6, 8, 9, 10] (.seq (.region [⟨(.some 14), (.mov (.t 1)), .none⟩,
   ⟨(.some 15), (.bin .lss (.t 14) (.c (.d (.int .i64 1)))), .none⟩,
   ⟨(.some 16), (.mov (.t 15)), .none⟩,
   ⟨(.some 17), (.load .true 3 (.t 6) .false), (.some (16, .false))⟩,
   ⟨(.some 18), (.mov (.t 1)), (.some (16, .false))⟩,
   ⟨(.some 19), (.bin .sub (.t 18) (.c (.d (.int .i64 1)))), (.some (16, .false))⟩,
   ⟨(.some 20), (.call0 28 [(.t 17), (.t 19)]), (.some (16, .false))⟩,
   ⟨(.some 21), (.not (.t 20)), (.some (16, .false))⟩,
   ⟨(.some 22), (.pick (.t 16) (.c (.d (.bool .true))) (.t 21)), .none⟩])
 c28_4))
abbrev c28_2 : PCode :=
 (.block 1 (.seq (.region [⟨(.some 12), (.iaddr 3 (.t 8) (.t 10)), .none⟩,
   ⟨(.some 13), (.load .true 3 (.t 12) .false), .none⟩,
   ⟨(.some 6), (.alloc [(.d (.int .u8 0)), (.d (.int .u8 0)), (.full [])]), .none⟩,
   ⟨.none, (.store 3 (.t 6) (.t 13)), .none⟩])
 c28_3))
abbrev c28_1 : PCode :=
 (.keep [1, 2, 8, 9, 10] (.block 0 (.loop (.some [10, 1, 2, 8, 9]) (.seq (.region [⟨(.some 11), (.bin .lss (.t 10) (.t 9)), .none⟩])
 (.seq (.cond (.t 11)
  .skip
  (.exit 0))
 (.seq c28_2
 (.region [⟨(.some 23), (.bin .add (.t 10) (.c (.d (.int .i64 1)))), .none⟩,
   ⟨(.some 10), (.mov (.t 23)), .none⟩])))))))
abbrev c28_6 : PCode :=
 (.seq (.region [⟨(.some 24), (.faddr 2 (.t 2)), .none⟩,
   ⟨(.some 25), (.load .false 1 (.t 24) .false), .none⟩,
   ⟨(.some 26), (.len (.t 25)), .none⟩,
   ⟨(.some 27), (.bin .leq (.t 26) (.c (.d (.int .i64 3)))), .none⟩,
   ⟨(.some 4), (.mov (.t 27)), .none⟩])
 .ret)
abbrev c28_0 : PCode :=
 (.seq (.seq (.region [⟨(.some 7), (.faddr 2 (.t 2)), .none⟩,
   ⟨(.some 8), (.load .false 1 (.t 7) .false), .none⟩,
   ⟨(.some 9), (.len (.t 8)), .none⟩,
   ⟨(.some 10), (.mov (.c (.d (.int .i64 0)))), .none⟩])
 c28_1)
 c28_6)
def c28 : PFun := ⟨
 (.seq (.region [⟨(.some 2), (.box 3 (.t 0)), .none⟩,
   ⟨(.some 4), (.mov (.c (.d (.bool .false)))), .none⟩])
 c28_0),
 2, 28, [(.tmp 4)]⟩

/-- (prompter/prompterlaw05.Small).Light -/
abbrev c14_5 : PCode :=
 (.seq (.region [⟨(.some 2), (.mov (.c (.d (.bool .false)))), .none⟩])
 .ret)
abbrev c14_4 : PCode :=
 (.cond (.t 16)
  c14_5
  .skip)
abbrev c14_3 : PCode :=
 (.keep [1, 4, 8, 9, 10] (.seq (.region [⟨(.some 14), (.load .true 3 (.t 4) .false), .none⟩,
   ⟨(.some 15), (.call0 28 [(.t 14), (.c (.d (.int .i64 3)))]), .none⟩,
   ⟨(.some 16), (.not (.t 15)), .none⟩])
 c14_4))
abbrev c14_2 : PCode :=
 (.block 1 (.seq (.region [⟨(.some 12), (.iaddr 3 (.t 8) (.t 10)), .none⟩,
   ⟨(.some 13), (.load .true 3 (.t 12) .false), .none⟩,
   ⟨(.some 4), (.alloc [(.d (.int .u8 0)), (.d (.int .u8 0)), (.full [])]), .none⟩,
   ⟨.none, (.store 3 (.t 4) (.t 13)), .none⟩])
 c14_3))
abbrev c14_1 : PCode :=
 (.keep [1, 8, 9, 10] (.block 0 (.loop (.some [10, 1, 8, 9]) (.seq (.region [⟨(.some 11), (.bin .lss (.t 10) (.t 9)), .none⟩])
 (.seq (.cond (.t 11)
  .skip
  (.exit 0))
 (.seq c14_2
 (.region [⟨(.some 17), (.bin .add (.t 10) (.c (.d (.int .i64 1)))), .none⟩,
   ⟨(.some 10), (.mov (.t 17)), .none⟩])))))))
abbrev c14_11 : PCode :=
 (.seq (.region [⟨(.some 2), (.mov (.c (.d (.bool .false)))), .none⟩])
 .ret)
abbrev c14_10 : PCode :=
 (.cond (.t 34)
  c14_11
  .skip)
abbrev c14_9 : PCode :=
 (.keep [1, 6, 19, 20, 21] (.seq (.region [⟨(.some 25), (.faddr 0 (.t 6)), .none⟩,
   ⟨(.some 26), (.load .true 3 (.t 25) .false), .none⟩,
   ⟨(.some 27), (.call0 28 [(.t 26), (.c (.d (.int .i64 3)))]), .none⟩,
   ⟨(.some 28), (.not (.t 27)), .none⟩,
   ⟨(.some 29), (.mov (.t 28)), .none⟩,
   ⟨(.some 30), (.faddr 3 (.t 6)), (.some (29, .false))⟩,
   ⟨(.some 31), (.load .true 3 (.t 30) .false), (.some (29, .false))⟩,
   ⟨(.some 32), (.call0 28 [(.t 31), (.c (.d (.int .i64 3)))]), (.some (29, .false))⟩,
   ⟨(.some 33), (.not (.t 32)), (.some (29, .false))⟩,
   ⟨(.some 34), (.pick (.t 29) (.c (.d (.bool .true))) (.t 33)), .none⟩])
 c14_10))
abbrev c14_8 : PCode :=
 (.block 3 (.seq (.region [⟨(.some 23), (.iaddr 8 (.t 19) (.t 21)), .none⟩,
   ⟨(.some 24), (.load .true 8 (.t 23) .false), .none⟩,
   ⟨(.some 6), (.alloc [(.d (.int .u8 0)), (.d (.int .u8 0)), (.full []), (.d (.int .u8 0)), (.d (.int .u8 0)), (.full []), (.d (.int .u8 0)), (.d (.int .u16 0))]), .none⟩,
   ⟨.none, (.store 8 (.t 6) (.t 24)), .none⟩])
 c14_9))
abbrev c14_7 : PCode :=
 (.keep [1, 19, 20, 21] (.block 2 (.loop (.some [21, 1, 19, 20]) (.seq (.region [⟨(.some 22), (.bin .lss (.t 21) (.t 20)), .none⟩])
 (.seq (.cond (.t 22)
  .skip
  (.exit 2))
 (.seq c14_8
 (.region [⟨(.some 35), (.bin .add (.t 21) (.c (.d (.int .i64 1)))), .none⟩,
   ⟨(.some 21), (.mov (.t 35)), .none⟩])))))))
abbrev c14_12 : PCode :=
 (.seq (.region [⟨(.some 36), (.faddr 1 (.t 1)), .none⟩,
   ⟨(.some 37), (.load .false 1 (.t 36) .false), .none⟩,
   ⟨(.some 38), (.len (.t 37)), .none⟩,
   ⟨(.some 39), (.bin .leq (.t 38) (.c (.d (.int .i64 10)))), .none⟩,
   ⟨(.some 40), (.mov (.t 39)), .none⟩,
   ⟨(.some 41), (.faddr 3 (.t 1)), (.some (40, .true))⟩,
   ⟨(.some 42), (.load .false 1 (.t 41) .false), (.some (40, .true))⟩,
   ⟨(.some 43), (.len (.t 42)), (.some (40, .true))⟩,
   ⟨(.some 44), (.bin .leq (.t 43) (.c (.d (.int .i64 10)))), (.some (40, .true))⟩,
   ⟨(.some 45), (.pick (.t 40) (.t 44) (.c (.d (.bool .false)))), .none⟩,
   ⟨(.some 2), (.mov (.t 45)), .none⟩])
 .ret)
abbrev c14_6 : PCode :=
 (.seq (.seq (.region [⟨(.some 18), (.faddr 3 (.t 1)), .none⟩,
   ⟨(.some 19), (.load .false 1 (.t 18) .false), .none⟩,
   ⟨(.some 20), (.len (.t 19)), .none⟩,
   ⟨(.some 21), (.mov (.c (.d (.int .i64 0)))), .none⟩])
 c14_7)
 c14_12)
abbrev c14_0 : PCode :=
 (.seq (.seq (.region [⟨(.some 7), (.faddr 1 (.t 1)), .none⟩,
   ⟨(.some 8), (.load .false 1 (.t 7) .false), .none⟩,
   ⟨(.some 9), (.len (.t 8)), .none⟩,
   ⟨(.some 10), (.mov (.c (.d (.int .i64 0)))), .none⟩])
 c14_1)
 c14_6)
def c14 : PFun := ⟨
 (.seq (.region [⟨(.some 1), (.box 4 (.t 0)), .none⟩,
   ⟨(.some 2), (.mov (.c (.d (.bool .false)))), .none⟩])
 c14_0),
 1, 46, [(.tmp 2)]⟩

/-- prompter/prompterlaw05.Name -/
abbrev c31_0 : PCode :=
 (.seq (.region [⟨(.some 5), (.mov (.t 0)), .none⟩,
   ⟨(.some 6), (.bin .rem (.t 5) (.c (.d (.int .i64 26)))), .none⟩,
   ⟨(.some 7), (.bin .add (.c (.d (.int .i64 97))) (.t 6)), .none⟩,
   ⟨(.some 8), (.cvt .u8 (.t 7)), .none⟩,
   ⟨(.some 9), (.mov (.t 1)), .none⟩,
   ⟨(.some 10), (.bin .rem (.t 9) (.c (.d (.int .u8 26)))), .none⟩,
   ⟨(.some 11), (.bin .add (.c (.d (.int .u8 65))) (.t 10)), .none⟩,
   ⟨(.some 12), (.mov (.t 0)), .none⟩,
   ⟨(.some 13), (.bin .quo (.t 12) (.c (.d (.int .i64 26)))), .none⟩,
   ⟨(.some 14), (.bin .rem (.t 13) (.c (.d (.int .i64 10)))), .none⟩,
   ⟨(.some 15), (.bin .add (.c (.d (.int .i64 48))) (.t 14)), .none⟩,
   ⟨(.some 16), (.cvt .u8 (.t 15)), .none⟩,
   ⟨(.some 17), (.bsl 1 [(.t 8), (.t 11), (.t 16)]), .none⟩,
   ⟨(.some 18), (.strOf (.t 17)), .none⟩,
   ⟨(.some 4), (.mov (.t 18)), .none⟩])
 .ret)
def c31 : PFun := ⟨
 (.seq (.region [⟨(.some 4), (.mov (.c (.d (.str (bs []))))), .none⟩])
 c31_0),
 2, 19, [(.tmp 4)]⟩

theorem e28 : entered Tryd.prog 28 = true := by kernel_rfl
theorem k28 : compFun Tryd.prog (fun _ => 0) 28 = some c28.er := by kernel_rfl
theorem e14 : entered Tryd.prog 14 = true := by kernel_rfl
theorem k14 : compFun Tryd.prog (fun _ => 0) 14 = some c14.er := by kernel_rfl
theorem e31 : entered Tryd.prog 31 = true := by kernel_rfl
theorem k31 : compFun Tryd.prog (fun _ => 0) 31 = some c31.er := by kernel_rfl


theorem C28 (x : Nd) : ∀ (deep : Int), x.fit → 0 ≤ deep ∧ deep ≤ 1000 → Pure (PCalls Tryd.prog GK) 28 [x.av, .d (.int .i64 deep)] (b2 (x.light deep)) := by
  induction x using Nd.ind' with
  | h x ih =>
  intro deep hf hd
  rw [Nd.fit_eq] at hf
  obtain ⟨hk, hn, ho, hf⟩ := hf
  rw [Nd.light_eq]
  intro st; refine pcalls_of k28 e28 (of_decide_eq_true rfl) ?_; dsimp only [c28]; refine pstartL ?_; intro t hL; generalize hQ : pfin _ _ = Q
  refine gor hL ?_; (repeat (clear hL; intro t hL; refine gor hL ?_))
  (refine gor hL ?_; (repeat (clear hL; intro t hL; refine gor hL ?_))); refine po_boxA hL ?_; clear hL; intro p1 t hL
  refine gor hL ?_; (repeat (clear hL; intro t hL; refine gor hL ?_))
  (apply prangeK hL (x.of.length) (by omega) (fun k => (k = 0 ∨ 1 ≤ deep) ∧ (x.of.take k).all (fun x => x.light (deep - 1)) = true)); (· exact trimA); (· exact fun _ => rfl)
  · exact ⟨.inl rfl, rfl⟩
  · intro t hL hI
    rw [List.take_length] at hI
    refine gor hL ?_; (repeat (clear hL; intro t hL; refine gor hL ?_))
    rw [← hQ]
    refine pfin_pure (congrArg (fun z => some (b2 z)) ?_) hL.le
    have : (x.of.isEmpty || decide (1 ≤ deep) && x.of.all fun x => x.light (deep - 1)) = true := by
      rcases hI with ⟨h1, h2⟩
      rcases h1 with h1 | h1
      · simp [List.eq_nil_of_length_eq_zero h1]
      · simp [h1, h2]
    rw [this, Bool.true_and]
    rw [decide_eq_decide]; omega
  · intro k hk t hL hI
    obtain ⟨y, hy, hm⟩ := elem_at hk
    refine pblock ?_
    refine gor hL ?_; (repeat (clear hL; intro t hL; refine gor hL ?_))
    (refine gor hL ?_; (repeat (clear hL; intro t hL; refine gor hL ?_))); (with_reducible refine po_allocL hL rfl ?_); clear hL; intro p2 t hL
    refine gor hL ?_; (repeat (clear hL; intro t hL; refine gor hL ?_))
    refine gnm ?_; rw [IntWalk.i64_in (deep - 1) (by omega)]
    ((with_reducible apply po_g); (· exact gwt); (· (intro hw; refine does_call0 ?_ (ih y hm (deep - 1) (hf y hm) (by simp at hw; omega)); exact gargs hw)))
    refine gor hL ?_; (repeat (clear hL; intro t hL; refine gor hL ?_))
    have hsn := take_snoc hy
    refine pcond_b rfl (fun h1 => ?_) (fun h1 => ?_)
    · refine gor hL ?_; (repeat (clear hL; intro t hL; refine gor hL ?_))
      rw [← hQ]
      refine pfin_pure (congrArg (fun z => some (b2 z)) ?_) hL.le
      simp only [Bool.or_eq_true, decide_eq_true_eq, Bool.not_eq_true'] at h1
      have hne : x.of.isEmpty = false := by cases hx : x.of with | nil => rw [hx] at hm; cases hm | cons => rfl
      rw [hne, Bool.false_or]
      rcases h1 with h1 | h1
      · simp [show ¬ 1 ≤ deep by omega]
      · rw [List.all_eq_false.2 ⟨y, hm, by simp [h1]⟩]; simp
    · refine gor hL ?_; (repeat (clear hL; intro t hL; refine gor hL ?_))
      refine ⟨hL.pk, ?_, tr2⟩
      simp only [Bool.or_eq_false_iff, decide_eq_false_iff_not, Bool.not_eq_false'] at h1
      refine ⟨.inr (by omega), ?_⟩
      rw [hsn, List.all_append, hI.2]
      simp [h1.2]

theorem C14 (x : Sm) (hf : x.fit) : Pure (PCalls Tryd.prog GK) 14 [x.av] (b2 x.light) := by
  have hf1 := hf.many
  have hf2 := hf.many'
  intro st; refine pcalls_of k14 e14 (of_decide_eq_true rfl) ?_; dsimp only [c14]; refine pstartL ?_; intro t hL; generalize hQ : pfin _ _ = Q
  refine gor hL ?_; (repeat (clear hL; intro t hL; refine gor hL ?_))
  (refine gor hL ?_; (repeat (clear hL; intro t hL; refine gor hL ?_))); refine po_boxA hL ?_; clear hL; intro p1 t hL
  refine gor hL ?_; (repeat (clear hL; intro t hL; refine gor hL ?_))
  (apply prangeK hL (x.aliases.length) (by omega) (fun k => (x.aliases.take k).all (fun x => x.light 3) = true)); (· exact trimA); (· exact fun _ => rfl)
  · rfl
  · intro t hL hI
    rw [List.take_length] at hI
    refine gor hL ?_; (repeat (clear hL; intro t hL; refine gor hL ?_))
    (apply prangeK hL (x.procs.length) (by omega) (fun k => (x.procs.take k).all (fun p => p.takes.light 3 && p.answers.light 3) = true)); (· exact trimA); (· exact fun _ => rfl)
    · rfl
    · intro t hL hI'
      rw [List.take_length] at hI'
      refine gor hL ?_; (repeat (clear hL; intro t hL; refine gor hL ?_))
      rw [← hQ]
      refine pfin_pure (congrArg (fun z => some (b2 z)) ?_) hL.le
      rw [Sm.light, hI, hI']
      simp only [Bool.true_and]
      congr 1 <;> (rw [decide_eq_decide]; omega)
    · intro k hk t hL hI'
      obtain ⟨y, hy, hm⟩ := elem_at hk
      have hfy := hf.procs y hm
      refine pblock ?_
      refine gor hL ?_; (repeat (clear hL; intro t hL; refine gor hL ?_))
      (refine gor hL ?_; (repeat (clear hL; intro t hL; refine gor hL ?_))); (with_reducible refine po_allocL hL rfl ?_); clear hL; intro p2 t hL
      refine gor hL ?_; (repeat (clear hL; intro t hL; refine gor hL ?_))
      refine po_call rfl (C28 y.takes 3 hfy.1 (by decide)) (fun _ _ h => False.elim h) ?_
      refine gor hL ?_; (repeat (clear hL; intro t hL; refine gor hL ?_))
      ((with_reducible apply po_g); (· exact gwt); (· (intro hw; refine does_call0 ?_ (C28 y.answers 3 hfy.2.1 (by decide)); exact gargs hw)))
      refine gor hL ?_; (repeat (clear hL; intro t hL; refine gor hL ?_))
      have hsn := take_snoc hy
      refine pcond_b rfl (fun h1 => ?_) (fun h1 => ?_)
      · refine gor hL ?_; (repeat (clear hL; intro t hL; refine gor hL ?_))
        rw [← hQ]
        refine pfin_pure (congrArg (fun z => some (b2 z)) ?_) hL.le
        have : x.procs.all (fun p => p.takes.light 3 && p.answers.light 3) = false := List.all_eq_false.2 ⟨y, hm, by
          simp at h1 ⊢
          intro h
          rcases h1 with h1 | h1
          · rw [h] at h1; cases h1
          · exact h1⟩
        rw [Sm.light, this]
        simp
      · refine gor hL ?_; (repeat (clear hL; intro t hL; refine gor hL ?_))
        refine ⟨hL.pk, ?_, tr2⟩
        rw [hsn, List.all_append, hI']
        simp at h1
        simp [h1.1, h1.2]
  · intro k hk t hL hI
    obtain ⟨y, hy, hm⟩ := elem_at hk
    refine pblock ?_
    refine gor hL ?_; (repeat (clear hL; intro t hL; refine gor hL ?_))
    (refine gor hL ?_; (repeat (clear hL; intro t hL; refine gor hL ?_))); (with_reducible refine po_allocL hL rfl ?_); clear hL; intro p2 t hL
    refine gor hL ?_; (repeat (clear hL; intro t hL; refine gor hL ?_))
    refine po_call rfl (C28 y 3 (hf.aliases y hm) (by decide)) (fun _ _ h => False.elim h) ?_
    refine gor hL ?_; (repeat (clear hL; intro t hL; refine gor hL ?_))
    have hsn := take_snoc hy
    refine pcond_b rfl (fun h1 => ?_) (fun h1 => ?_)
    · refine gor hL ?_; (repeat (clear hL; intro t hL; refine gor hL ?_))
      rw [← hQ]
      refine pfin_pure (congrArg (fun z => some (b2 z)) ?_) hL.le
      have : x.aliases.all (fun x => x.light 3) = false := List.all_eq_false.2 ⟨y, hm, by simpa using h1⟩
      rw [Sm.light, this]
      simp
    · refine gor hL ?_; (repeat (clear hL; intro t hL; refine gor hL ?_))
      refine ⟨hL.pk, ?_, tr2⟩
      rw [hsn, List.all_append, hI]
      simp at h1
      simp [h1]
end Go.Pv
