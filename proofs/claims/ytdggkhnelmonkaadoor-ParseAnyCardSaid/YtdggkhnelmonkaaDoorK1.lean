/- Functions of the program, by value. No condition. -/
import Derived.Test.YtdggkhnelmonkaaDoorD1
import Derived.Test.YtdggkhnelmonkaaDoorR0
import Derived.Test.YtdggkhnelmonkaaDoorProg
namespace Go.Pv
open Go.Proofs
set_option maxRecDepth 100000
set_option maxHeartbeats 4000000

/-- prompter/lex.Letter -/
abbrev c48_0 : PCode :=
 (.seq (.region [⟨(.some 3), (.mov (.t 0)), .none⟩,
   ⟨(.some 4), (.bin .geq (.t 3) (.c (.d (.int .u8 97)))), .none⟩,
   ⟨(.some 5), (.mov (.t 4)), .none⟩,
   ⟨(.some 6), (.mov (.t 0)), (.some (5, .true))⟩,
   ⟨(.some 7), (.bin .leq (.t 6) (.c (.d (.int .u8 122)))), (.some (5, .true))⟩,
   ⟨(.some 8), (.pick (.t 5) (.t 7) (.c (.d (.bool .false)))), .none⟩,
   ⟨(.some 9), (.mov (.t 8)), .none⟩,
   ⟨(.some 10), (.mov (.t 0)), (.some (9, .false))⟩,
   ⟨(.some 11), (.bin .geq (.t 10) (.c (.d (.int .u8 65)))), (.some (9, .false))⟩,
   ⟨(.some 12), (.mov (.t 11)), (.some (9, .false))⟩,
   ⟨(.some 13), (.mov (.t 0)), (.some (12, .true))⟩,
   ⟨(.some 14), (.bin .leq (.t 13) (.c (.d (.int .u8 90)))), (.some (12, .true))⟩,
   ⟨(.some 15), (.pick (.t 12) (.t 14) (.c (.d (.bool .false)))), (.some (9, .false))⟩,
   ⟨(.some 16), (.pick (.t 9) (.c (.d (.bool .true))) (.t 15)), .none⟩,
   ⟨(.some 2), (.mov (.t 16)), .none⟩])
 .ret)
def c48 : PFun := ⟨
 (.seq (.region [⟨(.some 2), (.mov (.c (.d (.bool .false)))), .none⟩])
 c48_0),
 1, 17, [(.tmp 2)]⟩

/-- prompter/lex.Digit -/
abbrev c49_0 : PCode :=
 (.seq (.region [⟨(.some 3), (.mov (.t 0)), .none⟩,
   ⟨(.some 4), (.bin .geq (.t 3) (.c (.d (.int .u8 48)))), .none⟩,
   ⟨(.some 5), (.mov (.t 4)), .none⟩,
   ⟨(.some 6), (.mov (.t 0)), (.some (5, .true))⟩,
   ⟨(.some 7), (.bin .leq (.t 6) (.c (.d (.int .u8 57)))), (.some (5, .true))⟩,
   ⟨(.some 8), (.pick (.t 5) (.t 7) (.c (.d (.bool .false)))), .none⟩,
   ⟨(.some 2), (.mov (.t 8)), .none⟩])
 .ret)
def c49 : PFun := ⟨
 (.seq (.region [⟨(.some 2), (.mov (.c (.d (.bool .false)))), .none⟩])
 c49_0),
 1, 9, [(.tmp 2)]⟩

/-- slices.Index[[]string,string] -/
abbrev c61_5 : PCode :=
 (.seq (.region [⟨(.some 17), (.mov (.t 5)), .none⟩,
   ⟨(.some 4), (.mov (.t 17)), .none⟩])
 .ret)
abbrev c61_4 : PCode :=
 (.cond (.t 16)
  c61_5
  .skip)
abbrev c61_3 : PCode :=
 (.seq (.region [⟨(.some 11), (.mov (.t 1)), .none⟩,
   ⟨(.some 12), (.mov (.t 0)), .none⟩,
   ⟨(.some 13), (.mov (.t 5)), .none⟩,
   ⟨(.some 14), (.iaddr 1 (.t 12) (.t 13)), .none⟩,
   ⟨(.some 15), (.load .false 1 (.t 14) .false), .none⟩,
   ⟨(.some 16), (.bin .eql (.t 11) (.t 15)), .none⟩])
 c61_4)
abbrev c61_2 : PCode :=
 (.block 1 (.seq (.region [⟨(.some 10), (.mov (.t 8)), .none⟩,
   ⟨(.some 5), (.mov (.t 10)), .none⟩])
 c61_3))
abbrev c61_1 : PCode :=
 (.keep [0, 1, 7, 8] (.block 0 (.loop (.some [0, 1, 7, 8]) (.seq (.region [⟨(.some 9), (.bin .lss (.t 8) (.t 7)), .none⟩])
 (.seq (.cond (.t 9)
  .skip
  (.exit 0))
 (.seq c61_2
 (.region [⟨(.some 18), (.bin .add (.t 8) (.c (.d (.int .i64 1)))), .none⟩,
   ⟨(.some 8), (.mov (.t 18)), .none⟩])))))))
abbrev c61_6 : PCode :=
 (.seq (.region [⟨(.some 4), (.mov (.c (.d (.int .i64 (-1))))), .none⟩])
 .ret)
abbrev c61_0 : PCode :=
 (.seq (.seq (.region [⟨(.some 6), (.mov (.t 0)), .none⟩,
   ⟨(.some 7), (.len (.t 6)), .none⟩,
   ⟨(.some 8), (.mov (.c (.d (.int .i64 0)))), .none⟩])
 c61_1)
 c61_6)
def c61 : PFun := ⟨
 (.seq (.region [⟨(.some 4), (.mov (.c (.d (.int .i64 0)))), .none⟩])
 c61_0),
 2, 19, [(.tmp 4)]⟩

/-- slices.Contains[[]string,string] -/
abbrev c36_0 : PCode :=
 (.seq (.region [⟨(.some 5), (.mov (.t 0)), .none⟩,
   ⟨(.some 6), (.mov (.t 1)), .none⟩,
   ⟨(.some 7), (.call0 61 [(.t 5), (.t 6)]), .none⟩,
   ⟨(.some 8), (.bin .geq (.t 7) (.c (.d (.int .i64 0)))), .none⟩,
   ⟨(.some 4), (.mov (.t 8)), .none⟩])
 .ret)
def c36 : PFun := ⟨
 (.seq (.region [⟨(.some 4), (.mov (.c (.d (.bool .false)))), .none⟩])
 c36_0),
 2, 9, [(.tmp 4)]⟩

/-- prompter/kind.Named -/
abbrev c33_2 : PCode :=
 (.seq (.region [⟨(.some 2), (.mov (.c (.d (.bool .false)))), .none⟩])
 .ret)
abbrev c33_1 : PCode :=
 (.cond (.t 17)
  c33_2
  .skip)
abbrev c33_8 : PCode :=
 (.seq (.region [⟨(.some 2), (.mov (.c (.d (.bool .false)))), .none⟩])
 .ret)
abbrev c33_7 : PCode :=
 (.cond (.t 34)
  c33_8
  .skip)
abbrev c33_6 : PCode :=
 (.seq (.region [⟨(.some 23), (.mov (.t 0)), .none⟩,
   ⟨(.some 24), (.mov (.t 3)), .none⟩,
   ⟨(.some 25), (.idxS (.t 23) (.t 24)), .none⟩,
   ⟨(.some 26), (.call0 48 [(.t 25)]), .none⟩,
   ⟨(.some 27), (.not (.t 26)), .none⟩,
   ⟨(.some 28), (.mov (.t 27)), .none⟩,
   ⟨(.some 29), (.mov (.t 0)), (.some (28, .true))⟩,
   ⟨(.some 30), (.mov (.t 3)), (.some (28, .true))⟩,
   ⟨(.some 31), (.idxS (.t 29) (.t 30)), (.some (28, .true))⟩,
   ⟨(.some 32), (.call0 49 [(.t 31)]), (.some (28, .true))⟩,
   ⟨(.some 33), (.not (.t 32)), (.some (28, .true))⟩,
   ⟨(.some 34), (.pick (.t 28) (.t 33) (.c (.d (.bool .false)))), .none⟩])
 c33_7)
abbrev c33_5 : PCode :=
 (.block 1 (.seq (.region [⟨(.some 22), (.mov (.t 20)), .none⟩,
   ⟨(.some 3), (.mov (.t 22)), .none⟩])
 c33_6))
abbrev c33_4 : PCode :=
 (.keep [0, 19, 20] (.block 0 (.loop (.some [0, 19, 20]) (.seq (.region [⟨(.some 21), (.bin .lss (.t 20) (.t 19)), .none⟩])
 (.seq (.cond (.t 21)
  .skip
  (.exit 0))
 (.seq c33_5
 (.region [⟨(.some 35), (.bin .add (.t 20) (.c (.d (.int .i64 1)))), .none⟩,
   ⟨(.some 20), (.mov (.t 35)), .none⟩])))))))
abbrev c33_9 : PCode :=
 (.seq (.region [⟨(.some 36), (.load .false 1 (.g 1) .false), .none⟩,
   ⟨(.some 37), (.mov (.t 0)), .none⟩,
   ⟨(.some 38), (.call0 36 [(.t 36), (.t 37)]), .none⟩,
   ⟨(.some 39), (.not (.t 38)), .none⟩,
   ⟨(.some 2), (.mov (.t 39)), .none⟩])
 .ret)
abbrev c33_3 : PCode :=
 (.keep [0] (.seq (.seq (.region [⟨(.some 18), (.mov (.t 0)), .none⟩,
   ⟨(.some 19), (.lenS (.t 18)), .none⟩,
   ⟨(.some 20), (.mov (.c (.d (.int .i64 0)))), .none⟩])
 c33_4)
 c33_9))
abbrev c33_0 : PCode :=
 (.seq (.seq (.region [⟨(.some 4), (.mov (.t 0)), .none⟩,
   ⟨(.some 5), (.lenS (.t 4)), .none⟩,
   ⟨(.some 6), (.bin .lss (.t 5) (.c (.d (.int .i64 1)))), .none⟩,
   ⟨(.some 7), (.mov (.t 6)), .none⟩,
   ⟨(.some 8), (.mov (.t 0)), (.some (7, .false))⟩,
   ⟨(.some 9), (.lenS (.t 8)), (.some (7, .false))⟩,
   ⟨(.some 10), (.bin .gtr (.t 9) (.c (.d (.int .i64 20)))), (.some (7, .false))⟩,
   ⟨(.some 11), (.pick (.t 7) (.c (.d (.bool .true))) (.t 10)), .none⟩,
   ⟨(.some 12), (.mov (.t 11)), .none⟩,
   ⟨(.some 13), (.mov (.t 0)), (.some (12, .false))⟩,
   ⟨(.some 14), (.idxS (.t 13) (.c (.d (.int .i64 0)))), (.some (12, .false))⟩,
   ⟨(.some 15), (.call0 48 [(.t 14)]), (.some (12, .false))⟩,
   ⟨(.some 16), (.not (.t 15)), (.some (12, .false))⟩,
   ⟨(.some 17), (.pick (.t 12) (.c (.d (.bool .true))) (.t 16)), .none⟩])
 c33_1)
 c33_3)
def c33 : PFun := ⟨
 (.seq (.region [⟨(.some 2), (.mov (.c (.d (.bool .false)))), .none⟩])
 c33_0),
 1, 40, [(.tmp 2)]⟩

theorem e48 : entered Tryd.prog 48 = true := by kernel_rfl
theorem k48 : compFun Tryd.prog (fun _ => 0) 48 = some c48.er := by kernel_rfl
theorem e49 : entered Tryd.prog 49 = true := by kernel_rfl
theorem k49 : compFun Tryd.prog (fun _ => 0) 49 = some c49.er := by kernel_rfl
theorem e61 : entered Tryd.prog 61 = true := by kernel_rfl
theorem k61 : compFun Tryd.prog (fun _ => 0) 61 = some c61.er := by kernel_rfl
theorem e36 : entered Tryd.prog 36 = true := by kernel_rfl
theorem k36 : compFun Tryd.prog (fun _ => 0) 36 = some c36.er := by kernel_rfl
theorem e33 : entered Tryd.prog 33 = true := by kernel_rfl
theorem k33 : compFun Tryd.prog (fun _ => 0) 33 = some c33.er := by kernel_rfl


theorem C48 (n : Int) : Pure (PCalls Tryd.prog GK) 48 [.d (.int .u8 n)] (b2 (letter n)) := by
  intro st
  refine pcalls_of k48 e48 (of_decide_eq_true rfl) ?_; dsimp only [c48]
  refine gor0 ?_
  have fin : ∀ {v : Bool}, v = letter n → some (b2 v) = some (b2 (letter n)) := fun h => by rw [h]
  by_cases h1 : n ≥ 97
  · rw [decide_eq_true h1]
    refine gor0 ?_
    by_cases h2 : n ≤ 122
    · rw [decide_eq_true h2]
      refine gor0 ?_
      exact pfin_pure (fin (by simp [letter, h1, h2])) (.refl _)
    · rw [decide_eq_false h2]
      refine gor0 ?_
      rw [decide_eq_true (show n ≥ 65 by omega)]
      refine gor0 ?_
      exact pfin_pure (fin (by simp [letter, h1, h2]; omega)) (.refl _)
  · rw [decide_eq_false h1]
    refine gor0 ?_
    by_cases h2 : n ≥ 65
    · rw [decide_eq_true h2]
      refine gor0 ?_
      exact pfin_pure (fin (by simp [letter, h1, h2])) (.refl _)
    · rw [decide_eq_false h2]
      refine gor0 ?_
      exact pfin_pure (fin (by simp [letter, h1, h2])) (.refl _)

theorem C49 (n : Int) : Pure (PCalls Tryd.prog GK) 49 [.d (.int .u8 n)] (b2 (digit n)) := by
  intro st
  refine pcalls_of k49 e49 (of_decide_eq_true rfl) ?_; dsimp only [c49]
  refine gor0 ?_
  have fin : ∀ {v : Bool}, v = digit n → some (b2 v) = some (b2 (digit n)) := fun h => by rw [h]
  by_cases h1 : n ≥ 48
  · rw [decide_eq_true h1]
    refine gor0 ?_
    exact pfin_pure (fin (by simp [digit, h1])) (.refl _)
  · rw [decide_eq_false h1]
    refine gor0 ?_
    exact pfin_pure (fin (by simp [digit, h1])) (.refl _)

theorem C61 (l : List ByteArray) (x : ByteArray) (hl : l.length < 2 ^ 62) : Pure (PCalls Tryd.prog GK) 61 [.d (strs l), .d (.str x)] (i64 (idxS x l)) := by
  intro st
  refine pcalls_of k61 e61 (of_decide_eq_true rfl) ?_; dsimp only [c61]
  refine gor0 ?_
  refine prange l.length (by omega) (fun k => put (put (put (put (fun _ => .undef) (some 8) (i64 k)) (some 7) (i64 l.length)) (some 1) (.d (.str x))) (some 0) (.d (strs l))) (fun _ => st) (fun k => (l.take k).any (seqB x) = false) rfl rfl rfl (fun k => rfl) (fun k => rfl) ?_ ?_
  · intro hI
    rw [List.take_length] at hI
    refine gor0 ?_
    refine pfin_pure ?_ (.refl _)
    simp only [idxS, smem, hI]
    rfl
  · intro k hk hI
    refine pblock ?_
    refine gor0 ?_
    refine po rfl (iaddr_strs rfl rfl hk) ?_
    refine gor0 ?_
    by_cases h : seqB x l[k] = true
    · refine gnm0 ?_; rw [show (x.toList == l[k].toList) = true from h]
      refine gor0 ?_
      have hany : smem x l = true := List.any_eq_true.2 ⟨l[k], List.getElem_mem hk, h⟩
      have hidx : l.findIdx (seqB x) = k := by
        rw [List.findIdx_eq hk]
        refine ⟨h, fun j hj => ?_⟩
        have := List.any_eq_false.1 hI (l[j]'(by omega)) (List.mem_take_iff_getElem.2 ⟨j, by omega, rfl⟩)
        simpa using this
      refine pfin_pure ?_ (.refl _)
      simp only [idxS, hany, hidx]
      rfl
    · refine gnm0 ?_; rw [show (x.toList == l[k].toList) = false by simpa [seqB] using h]
      refine gor0 ?_
      ((repeat' (with_reducible apply And.intro)) <;> (try (first | trivial | rfl)))
      rw [any_take hk, hI]
      simpa using h

theorem C36 (l : List ByteArray) (x : ByteArray) (hl : l.length < 2 ^ 62) : Pure (PCalls Tryd.prog GK) 36 [.d (strs l), .d (.str x)] (b2 (smem x l)) := by
  intro st
  refine pcalls_of k36 e36 (of_decide_eq_true rfl) ?_; dsimp only [c36]
  refine gor0 ?_
  refine po_call rfl (C61 l x hl) (fun _ _ h => False.elim h) ?_
  refine gor0 ?_
  refine pfin_pure ?_ (.refl _)
  have e : decide (idxS x l ≥ 0) = smem x l := by
    unfold idxS
    cases smem x l <;> simp
  exact congrArg (fun z => some (b2 z)) e

theorem C33 (x : ByteArray) (hx : x.size < 2 ^ 62) : Pure (PCalls Tryd.prog GK) 33 [.d (.str x)] (b2 (isName x)) := by
  intro st
  refine pcalls_of k33 e33 (of_decide_eq_true rfl) ?_; dsimp only [c33]
  refine gor0 ?_
  by_cases h1 : (x.size : Int) < 1
  · rw [decide_eq_true h1]
    refine gor0 ?_
    exact pfin_pure (congrArg (fun z => some (b2 z)) (by simp [isName]; omega)) (.refl _)
  rw [decide_eq_false h1]
  refine gor0 ?_
  by_cases h2 : (x.size : Int) > 20
  · rw [decide_eq_true h2]
    refine gor0 ?_
    exact pfin_pure (congrArg (fun z => some (b2 z)) (by simp [isName]; omega)) (.refl _)
  rw [decide_eq_false h2]
  refine gor0 ?_
  refine po_idxS (k := 0) rfl rfl (by omega) ?_
  refine gor0 ?_
  refine po_call rfl (C48 _) (fun _ _ h => False.elim h) ?_
  refine gor0 ?_
  cases h3 : letter (byteAt x 0)
  · refine gor0 ?_
    exact pfin_pure (congrArg (fun z => some (b2 z)) (by simp [isName, h3])) (.refl _)
  refine gor0 ?_
  refine prange x.size (by omega) (fun k => put (put (put (fun _ => .undef) (some 20) (i64 k)) (some 19) (i64 x.size)) (some 0) (.d (.str x))) (fun _ => st) (fun k => (List.range k).all (chOk x) = true) rfl rfl rfl (fun k => rfl) (fun k => rfl) ?_ ?_
  · intro hI
    refine gor0 ?_
    refine po_call rfl (C36 words x (by decide)) (fun _ _ h => False.elim h) ?_
    refine gor0 ?_
    refine pfin_pure (congrArg (fun z => some (b2 z)) ?_) (.refl _)
    simp only [isName, h3, hI]
    simp
    omega
  · intro k hk hI
    refine pblock ?_
    refine gor0 ?_
    refine po_call rfl (C48 _) (fun _ _ h => False.elim h) ?_
    refine gor0 ?_
    cases h4 : letter (byteAt x k)
    · refine gor0 ?_
      refine po_call rfl (C49 _) (fun _ _ h => False.elim h) ?_
      refine gor0 ?_
      cases h5 : digit (byteAt x k)
      · refine gor0 ?_
        refine pfin_pure (congrArg (fun z => some (b2 z)) ?_) (.refl _)
        have : (List.range x.size).all (chOk x) = false := List.all_eq_false.2 ⟨k, List.mem_range.2 hk, by simp [chOk, h4, h5]⟩
        simp [isName, this]
      · refine gor0 ?_
        ((repeat' (with_reducible apply And.intro)) <;> (try (first | trivial | rfl)))
        rw [List.range_succ, List.all_append, hI]
        simp [chOk, h5]
    · refine gor0 ?_
      ((repeat' (with_reducible apply And.intro)) <;> (try (first | trivial | rfl)))
      rw [List.range_succ, List.all_append, hI]
      simp [chOk, h4]

end Go.Pv
