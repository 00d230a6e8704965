/- Functions of the program, by value. No condition. -/
import Derived.Test.YtidelhpljjjjmaaV12
import Derived.Test.YtidelhpljjjjmaaV8
namespace Go.Pv
open Go.Proofs
set_option maxRecDepth 100000
set_option maxHeartbeats 8000000

/-- prompter/prompterlaw08.ValueChecks -/
abbrev c4_2 : PCode :=
 (.seq (.region [⟨(.some 16), (.mov (.c (.d (.bool .false)))), .none⟩])
 .ret)
abbrev c4_1 : PCode :=
 (.cond (.t 24)
  c4_2
  .skip)
abbrev c4_5 : PCode :=
 (.seq (.region [⟨(.some 16), (.mov (.c (.d (.bool .true)))), .none⟩])
 .ret)
abbrev c4_4 : PCode :=
 (.cond (.t 42)
  c4_5
  .skip)
abbrev c4_15 : PCode :=
 (.region [⟨(.some 22), (.mov (.c (.d (.int .i64 17)))), .none⟩])
abbrev c4_14 : PCode :=
 (.cond (.t 71)
  c4_15
  .skip)
abbrev c4_18 : PCode :=
 (.seq (.region [⟨(.some 16), (.mov (.c (.d (.bool .false)))), .none⟩])
 .ret)
abbrev c4_17 : PCode :=
 (.cond (.t 87)
  c4_18
  .skip)
abbrev c4_16 : PCode :=
 (.keep [2, 3, 5, 6, 7, 17, 18, 21, 22, 51, 52, 53] (.seq (.region [⟨(.some 72), (.load .true 4 (.t 17) .false), .none⟩,
   ⟨(.some 73), (.load .true 4 (.t 21) .false), .none⟩,
   ⟨(.some 74), (.call0 22 [(.t 72), (.t 73)]), .none⟩,
   ⟨(.some 75), (.mov (.t 22)), .none⟩,
   ⟨(.some 76), (.bin .neq (.t 74) (.t 75)), .none⟩,
   ⟨(.some 77), (.mov (.t 76)), .none⟩,
   ⟨(.some 78), (.mov (.t 22)), (.some (77, .false))⟩,
   ⟨(.some 79), (.bin .neq (.t 78) (.c (.d (.int .i64 0)))), (.some (77, .false))⟩,
   ⟨(.some 80), (.mov (.t 79)), (.some (77, .false))⟩,
   ⟨(.some 81), (.load .true 4 (.t 17) .false), (.some (80, .true))⟩,
   ⟨(.some 82), (.load .true 4 (.t 21) .false), (.some (80, .true))⟩,
   ⟨(.some 83), (.call0 23 [(.t 81), (.t 82), (.c (.d (.int .i64 9)))]), (.some (80, .true))⟩,
   ⟨(.some 84), (.len (.t 83)), (.some (80, .true))⟩,
   ⟨(.some 85), (.bin .gtr (.t 84) (.c (.d (.int .i64 0)))), (.some (80, .true))⟩,
   ⟨(.some 86), (.pick (.t 80) (.t 85) (.c (.d (.bool .false)))), (.some (77, .false))⟩,
   ⟨(.some 87), (.pick (.t 77) (.c (.d (.bool .true))) (.t 86)), .none⟩])
 c4_17))
abbrev c4_13 : PCode :=
 (.seq (.seq (.region [⟨(.some 66), (.load .true 4 (.t 17) .false), .none⟩,
   ⟨(.some 67), (.callp 20 [(.t 66)]), .none⟩,
   ⟨(.some 68), (.load .true 4 (.t 21) .false), .none⟩,
   ⟨(.some 69), (.callp 21 [(.t 68)]), .none⟩,
   ⟨(.some 70), (.callp 19 [(.t 67), (.t 69)]), .none⟩,
   ⟨(.some 71), (.not (.t 70)), .none⟩])
 c4_14)
 c4_16)
abbrev c4_12 : PCode :=
 (.keep [2, 3, 5, 6, 7, 17, 18, 21, 51, 52, 53] (.seq (.region [⟨(.some 22), (.mov (.c (.d (.int .i64 0)))), .none⟩])
 c4_13))
abbrev c4_11 : PCode :=
 (.keep [2, 3, 5, 6, 7, 17, 18, 20, 51, 52, 53] (.seq (.region [⟨(.some 57), (.load .true 4 (.t 18) .false), .none⟩,
   ⟨(.some 58), (.mov (.t 2)), .none⟩,
   ⟨(.some 59), (.mov (.t 3)), .none⟩,
   ⟨(.some 60), (.mov (.t 20)), .none⟩,
   ⟨(.some 61), (.mov (.t 5)), .none⟩,
   ⟨(.some 62), (.mov (.t 6)), .none⟩,
   ⟨(.some 63), (.callp 16 [(.t 61), (.t 62)]), .none⟩,
   ⟨(.some 64), (.mov (.t 7)), .none⟩,
   ⟨(.some 65), (.callp 17 [(.t 57), (.t 58), (.t 59), (.t 60), (.t 63), (.t 64)]), .none⟩,
   ⟨(.some 21), (.alloc [(.d (.int .i64 0)), (.d (.flt .f64 0)), (.d (.str (bs []))), (.full [])]), .none⟩,
   ⟨.none, (.store 4 (.t 21) (.t 65)), .none⟩])
 c4_12))
abbrev c4_10 : PCode :=
 (.block 1 (.seq (.region [⟨(.some 55), (.iaddr 1 (.t 51) (.t 53)), .none⟩,
   ⟨(.some 56), (.load .false 1 (.t 55) .false), .none⟩,
   ⟨(.some 20), (.mov (.t 56)), .none⟩])
 c4_11))
abbrev c4_9 : PCode :=
 (.keep [2, 3, 5, 6, 7, 17, 18, 51, 52, 53] (.block 0 (.loop (.some [53, 2, 3, 5, 6, 7, 17, 18, 51, 52]) (.seq (.region [⟨(.some 54), (.bin .lss (.t 53) (.t 52)), .none⟩])
 (.seq (.cond (.t 54)
  .skip
  (.exit 0))
 (.seq c4_10
 (.region [⟨(.some 88), (.bin .add (.t 53) (.c (.d (.int .i64 1)))), .none⟩,
   ⟨(.some 53), (.mov (.t 88)), .none⟩])))))))
abbrev c4_19 : PCode :=
 (.seq (.region [⟨(.some 16), (.mov (.c (.d (.bool .true)))), .none⟩])
 .ret)
abbrev c4_8 : PCode :=
 (.keep [2, 3, 4, 5, 6, 7, 17, 18] (.seq (.seq (.region [⟨(.some 48), (.mov (.t 4)), .none⟩,
   ⟨(.some 49), (.mov (.t 4)), .none⟩,
   ⟨(.some 50), (.bin .rem (.t 49) (.c (.d (.int .i64 5)))), .none⟩,
   ⟨(.some 51), (.bsl 1 [(.t 48), (.t 50)]), .none⟩,
   ⟨(.some 52), (.len (.t 51)), .none⟩,
   ⟨(.some 53), (.mov (.c (.d (.int .i64 0)))), .none⟩])
 c4_9)
 c4_19))
abbrev c4_7 : PCode :=
 (.keep [1, 2, 3, 4, 5, 6, 7, 17] (.seq (.region [⟨(.some 45), (.load .true 4 (.t 17) .false), .none⟩,
   ⟨(.some 46), (.mov (.t 1)), .none⟩,
   ⟨(.some 47), (.call0 14 [(.t 45), (.t 46)]), .none⟩,
   ⟨(.some 18), (.alloc [(.d (.int .i64 0)), (.d (.flt .f64 0)), (.d (.str (bs []))), (.full [])]), .none⟩,
   ⟨.none, (.store 4 (.t 18) (.t 47)), .none⟩])
 c4_8))
abbrev c4_6 : PCode :=
 (.keep [1, 2, 3, 4, 5, 6, 7, 8] (.seq (.region [⟨(.some 43), (.load .true 3 (.t 8) .false), .none⟩,
   ⟨(.some 44), (.call0 15 [(.t 43)]), .none⟩,
   ⟨(.some 17), (.alloc [(.d (.int .u8 0)), (.d (.int .i64 0)), (.full []), (.full [])]), .none⟩,
   ⟨.none, (.store 4 (.t 17) (.t 44)), .none⟩])
 c4_7))
abbrev c4_3 : PCode :=
 (.keep [1, 2, 3, 4, 5, 6, 7, 8] (.seq (.seq (.region [⟨(.some 25), (.load .true 3 (.t 8) .false), .none⟩,
   ⟨(.some 26), (.call0 13 [(.t 25), (.c (.d (.int .i64 4)))]), .none⟩,
   ⟨(.some 27), (.not (.t 26)), .none⟩,
   ⟨(.some 28), (.mov (.t 27)), .none⟩,
   ⟨(.some 29), (.mov (.t 1)), (.some (28, .false))⟩,
   ⟨(.some 30), (.len (.t 29)), (.some (28, .false))⟩,
   ⟨(.some 31), (.bin .gtr (.t 30) (.c (.d (.int .i64 40)))), (.some (28, .false))⟩,
   ⟨(.some 32), (.pick (.t 28) (.c (.d (.bool .true))) (.t 31)), .none⟩,
   ⟨(.some 33), (.mov (.t 32)), .none⟩,
   ⟨(.some 34), (.mov (.t 2)), (.some (33, .false))⟩,
   ⟨(.some 35), (.len (.t 34)), (.some (33, .false))⟩,
   ⟨(.some 36), (.bin .gtr (.t 35) (.c (.d (.int .i64 10)))), (.some (33, .false))⟩,
   ⟨(.some 37), (.pick (.t 33) (.c (.d (.bool .true))) (.t 36)), .none⟩,
   ⟨(.some 38), (.mov (.t 37)), .none⟩,
   ⟨(.some 39), (.mov (.t 7)), (.some (38, .false))⟩,
   ⟨(.some 40), (.lenS (.t 39)), (.some (38, .false))⟩,
   ⟨(.some 41), (.bin .gtr (.t 40) (.c (.d (.int .i64 100)))), (.some (38, .false))⟩,
   ⟨(.some 42), (.pick (.t 38) (.c (.d (.bool .true))) (.t 41)), .none⟩])
 c4_4)
 c4_6))
abbrev c4_0 : PCode :=
 (.seq (.seq (.region [⟨(.some 23), (.call0 12 []), .none⟩,
   ⟨(.some 24), (.not (.t 23)), .none⟩])
 c4_1)
 c4_3)
def c4 : PFun := ⟨
 (.seq (.region [⟨(.some 8), (.box 3 (.t 0)), .none⟩,
   ⟨(.some 16), (.mov (.c (.d (.bool .false)))), .none⟩])
 c4_0),
 8, 89, [(.tmp 16)]⟩

theorem e4 : entered Try.prog 4 = true := by kernel_rfl
theorem k4 : compFun Try.prog (fun i => if i = 10 then 1 else if i = 12 then 1 else 0) 4 = some c4.er := by kernel_rfl


theorem C4 (x : Nd) (hx : x.fit) (l : List Int) (hr : ∀ x ∈ l, -9223372036854775808 ≤ x ∧ x ≤ 9223372036854775807) (path : List Int) (hpr : ∀ p ∈ path, 0 ≤ p ∧ p ≤ 255)
    (what n f e : Int) (s : ByteArray) (hw : 0 ≤ what ∧ what ≤ 255) (hn : -9223372036854775808 ≤ n ∧ n ≤ 9223372036854775807) (hf : 0 ≤ f ∧ f ≤ 18446744073709551615) (he : 0 ≤ e ∧ e ≤ 255) :
    Pure (PCalls Try.prog GG) 4 [x.av, .d (i64s l), .d (u8s path), .d (.int .u8 what), .d (.int .i64 n), .d (.int .u64 f), .d (.int .u8 e), .d (.str s)] (b2 true) := by
  obtain ⟨a, ha, hA⟩ := C16 f e hf he
  intro st; refine pcalls_of k4 e4 (of_decide_eq_true rfl) ?_; dsimp only [c4]; refine pstartL ?_; intro t hL; generalize hQ : pfin _ _ = Q
  (refine gor hL ?_; (repeat (clear hL; intro t hL; refine gor hL ?_))); refine po_boxA hL ?_; clear hL; intro p8 t hL
  refine gor hL ?_; (repeat (clear hL; intro t hL; refine gor hL ?_))
  refine po_c0 (C12) ?_
  refine gor hL ?_; (repeat (clear hL; intro t hL; refine gor hL ?_))
  refine po_c0 (C13 x 4 hx (by decide)) ?_
  refine gor hL ?_; (repeat (clear hL; intro t hL; refine gor hL ?_))
  refine pcond_b rfl (fun hq => ?_) (fun hq => ?_)
  · refine gor hL ?_; (repeat (clear hL; intro t hL; refine gor hL ?_))
    rw [← hQ]
    exact pfin_pure rfl hL.le
  simp only [Bool.or_eq_false_iff, decide_eq_false_iff_not] at hq
  have hl : l.length < 2 ^ 40 := by omega
  have hp : path.length < 2 ^ 40 := by omega
  have hs : s.size < 2 ^ 60 := by omega
  obtain ⟨t1, t2, t3⟩ := typ_le hx
  have hW : WT 4 (Nd.typ 4 x []) := .of_typ (by decide) hx
  have hT := C15 x hx
  have hV := C14 l hl hr _ t1 t2 t3
  have hvf : (buildV l (Nd.typ 4 x [])).fitB 4 := buildM_few hr (.of_typ (by decide) hx) 20 0 0
  generalize Nd.typ 4 x [] = T at *
  generalize buildV l T = V at *
  have hRT := C20 4 T hW
  simp only [VT.av_eq, KT.av_eq, KT.rav_eq] at hT hV hRT
  refine gor hL ?_; (repeat (clear hL; intro t hL; refine gor hL ?_))
  refine po_c0 (hT) ?_
  refine gor hL ?_; (repeat (clear hL; intro t hL; refine gor hL ?_))
  (refine gor hL ?_; (repeat (clear hL; intro t hL; refine gor hL ?_))); (with_reducible refine po_allocL hL rfl ?_); clear hL; intro p17 t hL
  refine gor hL ?_; (repeat (clear hL; intro t hL; refine gor hL ?_))
  refine po_c0 (hV) ?_
  refine gor hL ?_; (repeat (clear hL; intro t hL; refine gor hL ?_))
  (refine gor hL ?_; (repeat (clear hL; intro t hL; refine gor hL ?_))); (with_reducible refine po_allocL hL rfl ?_); clear hL; intro p18 t hL
  refine gor hL ?_; (repeat (clear hL; intro t hL; refine gor hL ?_))
  refine gnm ?_; rw [show (AV.full [[Dat.int .i64 n], [Dat.int .i64 (n.tmod 5)]]) = .full (rowsI [n, n.tmod 5]) from rfl]
  (apply prangeK hL (2) (by omega) (fun _ => True)); (· exact trimA); (· exact fun _ => rfl)
  · trivial
  · intro t hL _
    refine gor hL ?_; (repeat (clear hL; intro t hL; refine gor hL ?_))
    rw [← hQ]
    exact pfin_pure rfl hL.le
  · intro k hk t hL _
    obtain ⟨y, hy, hym⟩ := elem_at (l := [n, n.tmod 5]) (k := k) (by simpa using hk)
    have hyr : -9223372036854775808 ≤ y ∧ y ≤ 9223372036854775807 := by
      have h5 : n.tmod 5 < 5 := Int.tmod_lt_of_pos _ (by decide)
      have h6 : -5 < n.tmod 5 := by
        have := Int.tmod_lt_of_pos (-n) (show (0 : Int) < 5 by decide)
        rw [Int.neg_tmod] at this
        omega
      have : y = n ∨ y = n.tmod 5 := by simpa using hym
      omega
    have hta := C17 what y a s hw path V (hvf.fit (by decide)) hp hpr
    have hwf : (VT.turned what y a s path V).fit := (VT.turned_fit (by decide) hyr ha hs path V hvf).fit (by decide)
    generalize VT.turned what y a s path V = X at *
    have hRX := C21 X hwf
    have hIs := C19 4 T X hW hwf
    have hCh := C22 T X t1 hwf
    have hdp := is_deep hW 20 X (by decide)
    rw [VT.checkE, hdp] at hCh
    simp only [VT.av_eq, KT.av_eq, KT.rav_eq] at hta hRX hIs hCh
    refine pblock ?_
    refine gor hL ?_; (repeat (clear hL; intro t hL; refine gor hL ?_))
    refine po_cp (hA) ?_
    refine gor hL ?_; (repeat (clear hL; intro t hL; refine gor hL ?_))
    refine po_cp (hta) ?_
    refine gor hL ?_; (repeat (clear hL; intro t hL; refine gor hL ?_))
    (refine gor hL ?_; (repeat (clear hL; intro t hL; refine gor hL ?_))); (with_reducible refine po_allocL hL rfl ?_); clear hL; intro p21 t hL
    refine gor hL ?_; (repeat (clear hL; intro t hL; refine gor hL ?_))
    refine pseqk ?_
    refine gor hL ?_; (repeat (clear hL; intro t hL; refine gor hL ?_))
    refine po_cp (hRT) ?_
    refine gor hL ?_; (repeat (clear hL; intro t hL; refine gor hL ?_))
    refine po_cp (hRX) ?_
    refine gor hL ?_; (repeat (clear hL; intro t hL; refine gor hL ?_))
    refine po_cp (hIs) ?_
    cases hb : VT.is 4 T X
    · rw [hb] at hCh hdp
      simp only [Bool.false_eq_true, if_false] at hCh
      have hFl := C23 9 T X t1 hwf (fun h => by rw [hdp] at h; cases h)
      have hf0 : flatM 9 T X = [] := by rw [flatM, hdp]; rfl
      rw [hf0] at hFl
      simp only [VT.av_eq, KT.av_eq] at hFl
      refine gor hL ?_; (repeat (clear hL; intro t hL; refine gor hL ?_))
      refine po_c0 (hCh) ?_
      refine gor hL ?_; (repeat (clear hL; intro t hL; refine gor hL ?_))
      refine po_c0 (hFl) ?_
      refine gor hL ?_; (repeat (clear hL; intro t hL; refine gor hL ?_))
      exact ⟨hL.pk, trivial⟩
    · rw [hb] at hCh
      simp only [if_true] at hCh
      refine gor hL ?_; (repeat (clear hL; intro t hL; refine gor hL ?_))
      refine po_c0 (hCh) ?_
      refine gor hL ?_; (repeat (clear hL; intro t hL; refine gor hL ?_))
      exact ⟨hL.pk, trivial⟩
end Go.Pv
