/- Functions of the program, by value. No condition. -/
import Derived.Test.YtdggkhnelmonkaaDoorK4
namespace Go.Pv
open Go.Proofs
set_option maxRecDepth 100000
set_option maxHeartbeats 4000000

/-- slices.Equal[[]string,string] -/
abbrev c59_2 : PCode :=
 (.seq (.region [⟨(.some 4), (.mov (.c (.d (.bool .false)))), .none⟩])
 .ret)
abbrev c59_1 : PCode :=
 (.cond (.t 10)
  c59_2
  .skip)
abbrev c59_8 : PCode :=
 (.seq (.region [⟨(.some 4), (.mov (.c (.d (.bool .false)))), .none⟩])
 .ret)
abbrev c59_7 : PCode :=
 (.cond (.t 24)
  c59_8
  .skip)
abbrev c59_6 : PCode :=
 (.seq (.region [⟨(.some 16), (.mov (.t 0)), .none⟩,
   ⟨(.some 17), (.mov (.t 5)), .none⟩,
   ⟨(.some 18), (.iaddr 1 (.t 16) (.t 17)), .none⟩,
   ⟨(.some 19), (.load .false 1 (.t 18) .false), .none⟩,
   ⟨(.some 20), (.mov (.t 1)), .none⟩,
   ⟨(.some 21), (.mov (.t 5)), .none⟩,
   ⟨(.some 22), (.iaddr 1 (.t 20) (.t 21)), .none⟩,
   ⟨(.some 23), (.load .false 1 (.t 22) .false), .none⟩,
   ⟨(.some 24), (.bin .neq (.t 19) (.t 23)), .none⟩])
 c59_7)
abbrev c59_5 : PCode :=
 (.block 1 (.seq (.region [⟨(.some 15), (.mov (.t 13)), .none⟩,
   ⟨(.some 5), (.mov (.t 15)), .none⟩])
 c59_6))
abbrev c59_4 : PCode :=
 (.keep [0, 1, 12, 13] (.block 0 (.loop (.some [0, 1, 12, 13]) (.seq (.region [⟨(.some 14), (.bin .lss (.t 13) (.t 12)), .none⟩])
 (.seq (.cond (.t 14)
  .skip
  (.exit 0))
 (.seq c59_5
 (.region [⟨(.some 25), (.bin .add (.t 13) (.c (.d (.int .i64 1)))), .none⟩,
   ⟨(.some 13), (.mov (.t 25)), .none⟩])))))))
abbrev c59_9 : PCode :=
 (.seq (.region [⟨(.some 4), (.mov (.c (.d (.bool .true)))), .none⟩])
 .ret)
abbrev c59_3 : PCode :=
 (.keep [0, 1] (.seq (.seq (.region [⟨(.some 11), (.mov (.t 0)), .none⟩,
   ⟨(.some 12), (.len (.t 11)), .none⟩,
   ⟨(.some 13), (.mov (.c (.d (.int .i64 0)))), .none⟩])
 c59_4)
 c59_9))
abbrev c59_0 : PCode :=
 (.seq (.seq (.region [⟨(.some 6), (.mov (.t 0)), .none⟩,
   ⟨(.some 7), (.len (.t 6)), .none⟩,
   ⟨(.some 8), (.mov (.t 1)), .none⟩,
   ⟨(.some 9), (.len (.t 8)), .none⟩,
   ⟨(.some 10), (.bin .neq (.t 7) (.t 9)), .none⟩])
 c59_1)
 c59_3)
def c59 : PFun := ⟨
 (.seq (.region [⟨(.some 4), (.mov (.c (.d (.bool .false)))), .none⟩])
 c59_0),
 2, 26, [(.tmp 4)]⟩

/-- slices.EqualFunc[[]prompter/kind.Type,[]prompter/kind.Type,prompter/kind.Type,prompter/kind.Type] -/
abbrev c60_2 : PCode :=
 (.seq (.region [⟨(.some 6), (.mov (.c (.d (.bool .false)))), .none⟩])
 .ret)
abbrev c60_1 : PCode :=
 (.cond (.t 14)
  c60_2
  .skip)
abbrev c60_9 : PCode :=
 (.seq (.region [⟨(.some 6), (.mov (.c (.d (.bool .false)))), .none⟩])
 .ret)
abbrev c60_8 : PCode :=
 (.cond (.t 30)
  c60_9
  .skip)
abbrev c60_7 : PCode :=
 (.keep [1, 2, 8, 9, 15, 16, 17] (.seq (.region [⟨(.some 26), (.mov (.t 2)), .none⟩,
   ⟨(.some 27), (.load .true 4 (.t 8) .false), .none⟩,
   ⟨(.some 28), (.load .true 4 (.t 9) .false), .none⟩,
   ⟨(.some 29), (.callvp (.t 26) [(.t 27), (.t 28)]), .none⟩,
   ⟨(.some 30), (.not (.t 29)), .none⟩])
 c60_8))
abbrev c60_6 : PCode :=
 (.keep [1, 2, 7, 8, 15, 16, 17] (.seq (.region [⟨(.some 22), (.mov (.t 1)), .none⟩,
   ⟨(.some 23), (.mov (.t 7)), .none⟩,
   ⟨(.some 24), (.iaddr 4 (.t 22) (.t 23)), .none⟩,
   ⟨(.some 25), (.load .true 4 (.t 24) .false), .none⟩,
   ⟨(.some 9), (.alloc [(.d (.int .u8 0)), (.d (.int .i64 0)), (.full []), (.full [])]), .none⟩,
   ⟨.none, (.store 4 (.t 9) (.t 25)), .none⟩])
 c60_7))
abbrev c60_5 : PCode :=
 (.block 1 (.seq (.region [⟨(.some 19), (.mov (.t 17)), .none⟩,
   ⟨(.some 20), (.iaddr 4 (.t 15) (.t 17)), .none⟩,
   ⟨(.some 21), (.load .true 4 (.t 20) .false), .none⟩,
   ⟨(.some 8), (.alloc [(.d (.int .u8 0)), (.d (.int .i64 0)), (.full []), (.full [])]), .none⟩,
   ⟨(.some 7), (.mov (.t 19)), .none⟩,
   ⟨.none, (.store 4 (.t 8) (.t 21)), .none⟩])
 c60_6))
abbrev c60_4 : PCode :=
 (.keep [1, 2, 15, 16, 17] (.block 0 (.loop (.some [1, 2, 15, 16, 17]) (.seq (.region [⟨(.some 18), (.bin .lss (.t 17) (.t 16)), .none⟩])
 (.seq (.cond (.t 18)
  .skip
  (.exit 0))
 (.seq c60_5
 (.region [⟨(.some 31), (.bin .add (.t 17) (.c (.d (.int .i64 1)))), .none⟩,
   ⟨(.some 17), (.mov (.t 31)), .none⟩])))))))
abbrev c60_10 : PCode :=
 (.seq (.region [⟨(.some 6), (.mov (.c (.d (.bool .true)))), .none⟩])
 .ret)
abbrev c60_3 : PCode :=
 (.keep [0, 1, 2] (.seq (.seq (.region [⟨(.some 15), (.mov (.t 0)), .none⟩,
   ⟨(.some 16), (.len (.t 15)), .none⟩,
   ⟨(.some 17), (.mov (.c (.d (.int .i64 0)))), .none⟩])
 c60_4)
 c60_10))
abbrev c60_0 : PCode :=
 (.seq (.seq (.region [⟨(.some 10), (.mov (.t 0)), .none⟩,
   ⟨(.some 11), (.len (.t 10)), .none⟩,
   ⟨(.some 12), (.mov (.t 1)), .none⟩,
   ⟨(.some 13), (.len (.t 12)), .none⟩,
   ⟨(.some 14), (.bin .neq (.t 11) (.t 13)), .none⟩])
 c60_1)
 c60_3)
def c60 : PFun := ⟨
 (.seq (.region [⟨(.some 6), (.mov (.c (.d (.bool .false)))), .none⟩])
 c60_0),
 3, 32, [(.tmp 6)]⟩

/-- prompter/kind.Same -/
abbrev c30_0 : PCode :=
 (.keep [2, 3] (.seq (.region [⟨(.some 5), (.faddr 0 (.t 2)), .none⟩,
   ⟨(.some 6), (.load .false 1 (.t 5) .false), .none⟩,
   ⟨(.some 7), (.faddr 0 (.t 3)), .none⟩,
   ⟨(.some 8), (.load .false 1 (.t 7) .false), .none⟩,
   ⟨(.some 9), (.bin .eql (.t 6) (.t 8)), .none⟩,
   ⟨(.some 10), (.mov (.t 9)), .none⟩,
   ⟨(.some 11), (.faddr 1 (.t 2)), (.some (10, .true))⟩,
   ⟨(.some 12), (.load .false 1 (.t 11) .false), (.some (10, .true))⟩,
   ⟨(.some 13), (.faddr 1 (.t 3)), (.some (10, .true))⟩,
   ⟨(.some 14), (.load .false 1 (.t 13) .false), (.some (10, .true))⟩,
   ⟨(.some 15), (.bin .eql (.t 12) (.t 14)), (.some (10, .true))⟩,
   ⟨(.some 16), (.pick (.t 10) (.t 15) (.c (.d (.bool .false)))), .none⟩,
   ⟨(.some 17), (.mov (.t 16)), .none⟩,
   ⟨(.some 18), (.faddr 2 (.t 2)), (.some (17, .true))⟩,
   ⟨(.some 19), (.load .false 1 (.t 18) .false), (.some (17, .true))⟩,
   ⟨(.some 20), (.faddr 2 (.t 3)), (.some (17, .true))⟩,
   ⟨(.some 21), (.load .false 1 (.t 20) .false), (.some (17, .true))⟩,
   ⟨(.some 22), (.callp 59 [(.t 19), (.t 21)]), (.some (17, .true))⟩,
   ⟨(.some 23), (.pick (.t 17) (.t 22) (.c (.d (.bool .false)))), .none⟩,
   ⟨(.some 24), (.mov (.t 23)), .none⟩,
   ⟨(.some 25), (.faddr 3 (.t 2)), (.some (24, .true))⟩,
   ⟨(.some 26), (.load .false 1 (.t 25) .false), (.some (24, .true))⟩,
   ⟨(.some 27), (.faddr 3 (.t 3)), (.some (24, .true))⟩,
   ⟨(.some 28), (.load .false 1 (.t 27) .false), (.some (24, .true))⟩,
   ⟨(.some 29), (.callp 60 [(.t 26), (.t 28), (.c (.d (.fn 30 [] [])))]), (.some (24, .true))⟩,
   ⟨(.some 30), (.pick (.t 24) (.t 29) (.c (.d (.bool .false)))), .none⟩,
   ⟨(.some 4), (.mov (.t 30)), .none⟩])
 .ret))
def c30 : PFun := ⟨
 (.seq (.region [⟨(.some 2), (.box 4 (.t 0)), .none⟩,
   ⟨(.some 3), (.box 4 (.t 1)), .none⟩,
   ⟨(.some 4), (.mov (.c (.d (.bool .false)))), .none⟩])
 c30_0),
 2, 31, [(.tmp 4)]⟩

theorem e59 : entered Tryd.prog 59 = true := by kernel_rfl
theorem k59 : compFun Tryd.prog (fun _ => 1) 59 = some c59.er := by kernel_rfl
theorem e60 : entered Tryd.prog 60 = true := by kernel_rfl
theorem k60 : compFun Tryd.prog (fun _ => 1) 60 = some c60.er := by kernel_rfl
theorem e30 : entered Tryd.prog 30 = true := by kernel_rfl
theorem k30 : compFun Tryd.prog (fun _ => 1) 30 = some c30.er := by kernel_rfl


theorem C59 (l k : List ByteArray) (hl : l.length < 2 ^ 60) : Pure (PCalls Tryd.prog GK) 59 [.d (strs l), .d (strs k)] (b2 (eqAll seqB l k)) := by
  intro st
  refine pcalls_of k59 e59 (of_decide_eq_true rfl) ?_; dsimp only [c59]
  refine gor0 ?_
  refine pcond_b rfl (fun h => ?_) (fun h => ?_)
  · refine gor0 ?_
    refine pfin_pure (congrArg (fun z => some (b2 z)) ?_) (.refl _)
    cases e : eqAll seqB l k
    · rfl
    · have := eqAll_len e; simp at h; omega
  have hlk : l.length = k.length := by simp at h; omega
  refine gor0 ?_
  refine prange l.length (by omega) (fun i => put (put (put (put (fun _ => .undef) (some 13) (i64 i)) (some 12) (i64 l.length)) (some 1) (.d (strs k))) (some 0) (.d (strs l))) (fun _ => st) (fun i => ∀ j (h1 : j < l.length) (h2 : j < k.length), j < i → seqB l[j] k[j] = true) (fun j _ _ h => absurd h (Nat.not_lt_zero _)) rfl rfl (fun k => rfl) (fun k => rfl) ?_ ?_
  · intro hI
    refine gor0 ?_
    exact pfin_pure (congrArg (fun z => some (b2 z)) (eqAll_all hlk fun i h1 h2 => hI i h1 h2 h1).symm) (.refl _)
  · intro i hi hI
    refine pblock ?_
    refine gor0 ?_
    refine po rfl (iaddr_strs rfl rfl hi) ?_
    refine gor0 ?_
    refine po rfl (iaddr_strs rfl rfl (show i < k.length by omega)) ?_
    refine gor0 ?_
    refine pcond_b rfl (fun h1 => ?_) (fun h1 => ?_)
    · refine gor0 ?_
      refine pfin_pure (congrArg (fun z => some (b2 z)) (eqAll_first hi (show i < k.length by omega) ?_).symm) (.refl _)
      simpa [seqB] using h1
    · refine gor0 ?_
      ((repeat' (with_reducible apply And.intro)) <;> (try (first | trivial | rfl)))
      intro j a1 a2 hj
      by_cases e : j = i
      · subst e; simpa [seqB] using h1
      · exact hI j a1 a2 (by omega)

theorem C60 (g : FuncId) (e : KT → KT → Bool) (l k : List KT) (hl : l.length < 2 ^ 60) (hg : ∀ x ∈ l, ∀ y ∈ k, Pure (PCalls Tryd.prog GK) g [x.av, y.av] (b2 (e x y))) :
    Pure (PCalls Tryd.prog GK) 60 [.d (.sl (KT.rows l)), .d (.sl (KT.rows k)), .d (.fn g [] [])] (b2 (eqAll e l k)) := by
  intro st
  refine pcalls_of k60 e60 (of_decide_eq_true rfl) ?_; dsimp only [c60]
  refine gor0 ?_
  refine pcond_b rfl (fun h => ?_) (fun h => ?_)
  · refine gor0 ?_
    refine pfin_pure (congrArg (fun z => some (b2 z)) ?_) (.refl _)
    cases e : eqAll e l k
    · rfl
    · have := eqAll_len e; simp [KT.rows_len] at h; omega
  have hlk : l.length = k.length := by simp [KT.rows_len] at h; omega
  refine gor0 ?_
  rw [KT.rows_len]
  refine prangeL l.length (by omega) (fun i => put (put (put (put (put (fun _ => .undef) (some 17) (i64 i)) (some 16) (i64 l.length)) (some 15) (.d (.sl (KT.rows l)))) (some 2) (.d (.fn g [] []))) (some 1) (.d (.sl (KT.rows k))))
    (fun t => st.le t) (fun i => ∀ j (h1 : j < l.length) (h2 : j < k.length), j < i → e l[j] k[j] = true) (fun j _ _ h => absurd h (Nat.not_lt_zero _)) rfl (.refl _) (fun k => rfl) (fun k => rfl) ?_ ?_
  · intro t hle hI
    refine gor0 ?_
    exact pfin_pure (congrArg (fun z => some (b2 z)) (eqAll_all hlk fun i h1 h2 => hI i h1 h2 h1).symm) hle
  · intro i hi t hle hI
    have hi' : i < k.length := by omega
    have hrow : (KT.rows l)[i]'(by rw [KT.rows_len]; exact hi) = l[i].row := by simp [KT.rows_map]
    have hrow' : (KT.rows k)[i]'(by rw [KT.rows_len]; exact hi') = k[i].row := by simp [KT.rows_map]
    have hx := hg _ (List.getElem_mem hi) _ (List.getElem_mem hi')
    have hnext : e l[i] k[i] = true → ∀ j (h1 : j < l.length) (h2 : j < k.length), j < i + 1 → e l[j] k[j] = true := by
      intro h j a1 a2 hj
      by_cases e' : j = i
      · subst e'; exact h
      · exact hI j a1 a2 (by omega)
    have hstop : e l[i] k[i] = false → eqAll e l k = false := eqAll_first hi hi'
    refine pblock ?_
    refine gor0 ?_
    refine po rfl (iaddr_rows (v := .d (.sl (KT.rows l))) rfl rfl rfl (by rw [KT.rows_len]; exact hi) (by rw [hrow]; exact KT.row_len _)) ?_
    rw [hrow]
    generalize l[i] = x at *
    obtain ⟨k1, m1, n1, o1⟩ := x
    refine gor0 ?_
    refine po_alloc fun b hb => ?_
    have fb : st.box b = none := (fresh_le hle (show t.fresh b from hb)).1
    clear hb
    refine gor0 ?_
    refine po rfl (iaddr_rows (v := .d (.sl (KT.rows k))) rfl rfl rfl (by rw [KT.rows_len]; exact hi') (by rw [hrow']; exact KT.row_len _)) ?_
    rw [hrow']
    generalize k[i] = y at *
    obtain ⟨k2, m2, n2, o2⟩ := y
    refine gor0 ?_
    refine po_alloc fun b' hb' => ?_
    have nb : b ≠ b' := fresh_ne hb'
    have fb' : st.box b' = none := (fresh_le hle (show t.fresh b' from fresh_under hb')).1
    clear hb'
    refine gor0 ?_
    refine po_callvp rfl rfl (hx.at _) ?_
    refine gor0 ?_
    have hle' := (hle.setBox [.d (.int .u8 k1), .d (.int .i64 m1), .d (strs n1), .d (.sl (KT.rows o1))] fb).setBox [.d (.int .u8 k2), .d (.int .i64 m2), .d (strs n2), .d (.sl (KT.rows o2))] fb'
    refine pcond_b rfl (fun h1 => ?_) (fun h1 => ?_)
    · refine gor0 ?_
      exact pfin_pure (congrArg (fun z => some (b2 z)) (hstop (by simpa using h1)).symm) hle'
    · refine gor0 ?_
      ((repeat' (with_reducible apply And.intro)) <;> (try (first | trivial | rfl)))
      all_goals first | exact hnext (by simpa using h1) | exact hle'

theorem C30 (t : KT) : ∀ (u : KT), t.fit → Pure (PCalls Tryd.prog GK) 30 [t.av, u.av] (b2 (t.same u)) := by
  induction t using KT.ind with
  | h k m n o ih =>
  rintro ⟨k', m', n', o'⟩ ⟨hn, ho, hf⟩ st
  refine pcalls_of k30 e30 (of_decide_eq_true rfl) ?_; dsimp only [c30]
  refine gor0 ?_
  refine po_box (cells := [.d (.int .u8 k), .d (.int .i64 m), .d (strs n), .d (.sl (KT.rows o))]) rfl rfl fun b hb => ?_
  refine gor0 ?_
  refine po_box (cells := [.d (.int .u8 k'), .d (.int .i64 m'), .d (strs n'), .d (.sl (KT.rows o'))]) rfl rfl fun b' hb' => ?_
  have nb : b ≠ b' := fresh_ne hb'
  have hle := ((St.le.refl st).setBox [.d (.int .u8 k), .d (.int .i64 m), .d (strs n), .d (.sl (KT.rows o))] hb.1).setBox [.d (.int .u8 k'), .d (.int .i64 m'), .d (strs n'), .d (.sl (KT.rows o'))] (fresh_under hb').1
  clear hb hb'
  refine gor0 ?_
  apply po_g
  · (first | exact wt0 rfl | exact wf0 rfl | exact wt1 rfl | exact wf1 rfl)
  · intro hw
    refine does_callp ?_ (C59 n n' (Nat.lt_of_lt_of_le hn.1 (by decide)))
    (first | rfl | (simp +decide only [pvc, hw]; done) | (simp +decide only [pvc, hw]; rfl))
  refine gor0 ?_
  apply po_g
  · (first | exact wt0 rfl | exact wf0 rfl | exact wt1 rfl | exact wf1 rfl)
  · intro hw
    refine does_callp ?_ (C60 30 KT.same o o' (by omega) fun x hx y _ => ih x hx y (KT.fits_mem hf x hx))
    (first | rfl | (simp +decide only [pvc, hw]; done) | (simp +decide only [pvc, hw]; rfl))
  refine gor0 ?_
  refine pfin_pure (congrArg (fun z => some (b2 z)) ?_) hle
  simp [KT.same, KT.sames_all]
end Go.Pv
