/- Functions of the program, by value. No condition. -/
import Derived.Test.YtidelhpljjjjmaaV15
import Derived.Test.YtidelhpljjjjmaaV8
namespace Go.Pv
open Go.Proofs
set_option maxRecDepth 100000
set_option maxHeartbeats 8000000

/-- prompter/prompterlaw08.ValueBuilds -/
abbrev c5_2 : PCode :=
 (.seq (.region [⟨(.some 6), (.mov (.c (.d (.bool .false)))), .none⟩])
 .ret)
abbrev c5_1 : PCode :=
 (.cond (.t 16)
  c5_2
  .skip)
abbrev c5_5 : PCode :=
 (.seq (.region [⟨(.some 6), (.mov (.c (.d (.bool .true)))), .none⟩])
 .ret)
abbrev c5_4 : PCode :=
 (.cond (.t 24)
  c5_5
  .skip)
abbrev c5_16 : PCode :=
 (.seq (.region [⟨(.some 6), (.mov (.c (.d (.bool .false)))), .none⟩])
 .ret)
abbrev c5_15 : PCode :=
 (.cond (.t 60)
  c5_16
  .skip)
abbrev c5_22 : PCode :=
 (.seq (.region [⟨(.some 6), (.mov (.c (.d (.bool .false)))), .none⟩])
 .ret)
abbrev c5_21 : PCode :=
 (.cond (.t 74)
  c5_22
  .skip)
abbrev c5_20 : PCode :=
 (.seq (.region [⟨(.some 66), (.mov (.t 13)), .none⟩,
   ⟨(.some 67), (.mov (.t 14)), .none⟩,
   ⟨(.some 68), (.iaddr 1 (.t 66) (.t 67)), .none⟩,
   ⟨(.some 69), (.load .false 1 (.t 68) .false), .none⟩,
   ⟨(.some 70), (.mov (.t 10)), .none⟩,
   ⟨(.some 71), (.mov (.t 14)), .none⟩,
   ⟨(.some 72), (.iaddr 1 (.t 70) (.t 71)), .none⟩,
   ⟨(.some 73), (.load .false 1 (.t 72) .false), .none⟩,
   ⟨(.some 74), (.bin .neq (.t 69) (.t 73)), .none⟩])
 c5_21)
abbrev c5_19 : PCode :=
 (.block 3 (.seq (.region [⟨(.some 65), (.mov (.t 63)), .none⟩,
   ⟨(.some 14), (.mov (.t 65)), .none⟩])
 c5_20))
abbrev c5_18 : PCode :=
 (.keep [7, 8, 9, 10, 13, 43, 44, 45, 62, 63] (.block 2 (.loop (.some [63, 7, 8, 9, 10, 13, 43, 44, 45, 62]) (.seq (.region [⟨(.some 64), (.bin .lss (.t 63) (.t 62)), .none⟩])
 (.seq (.cond (.t 64)
  .skip
  (.exit 2))
 (.seq c5_19
 (.region [⟨(.some 75), (.bin .add (.t 63) (.c (.d (.int .i64 1)))), .none⟩,
   ⟨(.some 63), (.mov (.t 75)), .none⟩])))))))
abbrev c5_17 : PCode :=
 (.keep [7, 8, 9, 10, 13, 43, 44, 45] (.seq (.region [⟨(.some 61), (.mov (.t 13)), .none⟩,
   ⟨(.some 62), (.len (.t 61)), .none⟩,
   ⟨(.some 63), (.mov (.c (.d (.int .i64 0)))), .none⟩])
 c5_18))
abbrev c5_14 : PCode :=
 (.keep [7, 8, 9, 10, 12, 13, 43, 44, 45] (.seq (.seq (.region [⟨(.some 53), (.mov (.t 13)), .none⟩,
   ⟨(.some 54), (.len (.t 53)), .none⟩,
   ⟨(.some 55), (.mov (.t 10)), .none⟩,
   ⟨(.some 56), (.len (.t 55)), .none⟩,
   ⟨(.some 57), (.mov (.t 12)), .none⟩,
   ⟨(.some 58), (.minmax .true (.t 57) [(.c (.d (.int .i64 0)))]), .none⟩,
   ⟨(.some 59), (.minmax .false (.t 56) [(.t 58)]), .none⟩,
   ⟨(.some 60), (.bin .neq (.t 54) (.t 59)), .none⟩])
 c5_15)
 c5_17))
abbrev c5_13 : PCode :=
 (.keep [7, 8, 9, 10, 12, 43, 44, 45] (.seq (.region [⟨(.some 49), (.load .true 4 (.t 7) .false), .none⟩,
   ⟨(.some 50), (.load .true 4 (.t 8) .false), .none⟩,
   ⟨(.some 51), (.mov (.t 12)), .none⟩,
   ⟨(.some 52), (.call0 23 [(.t 49), (.t 50), (.t 51)]), .none⟩,
   ⟨(.some 13), (.mov (.t 52)), .none⟩])
 c5_14))
abbrev c5_12 : PCode :=
 (.block 1 (.seq (.region [⟨(.some 47), (.iaddr 1 (.t 43) (.t 45)), .none⟩,
   ⟨(.some 48), (.load .false 1 (.t 47) .false), .none⟩,
   ⟨(.some 12), (.mov (.t 48)), .none⟩])
 c5_13))
abbrev c5_11 : PCode :=
 (.keep [7, 8, 9, 10, 43, 44, 45] (.block 0 (.loop (.some [45, 7, 8, 9, 10, 43, 44]) (.seq (.region [⟨(.some 46), (.bin .lss (.t 45) (.t 44)), .none⟩])
 (.seq (.cond (.t 46)
  .skip
  (.exit 0))
 (.seq c5_12
 (.region [⟨(.some 76), (.bin .add (.t 45) (.c (.d (.int .i64 1)))), .none⟩,
   ⟨(.some 45), (.mov (.t 76)), .none⟩])))))))
abbrev c5_23 : PCode :=
 (.seq (.region [⟨(.some 77), (.load .true 4 (.t 8) .false), .none⟩,
   ⟨(.some 78), (.load .true 4 (.t 9) .false), .none⟩,
   ⟨(.some 79), (.call0 18 [(.t 77), (.t 78)]), .none⟩,
   ⟨(.some 80), (.mov (.t 79)), .none⟩,
   ⟨(.some 81), (.load .true 4 (.t 7) .false), (.some (80, .true))⟩,
   ⟨(.some 82), (.load .true 4 (.t 8) .false), (.some (80, .true))⟩,
   ⟨(.some 83), (.call0 22 [(.t 81), (.t 82)]), (.some (80, .true))⟩,
   ⟨(.some 84), (.bin .eql (.t 83) (.c (.d (.int .i64 0)))), (.some (80, .true))⟩,
   ⟨(.some 85), (.pick (.t 80) (.t 84) (.c (.d (.bool .false)))), .none⟩,
   ⟨(.some 86), (.mov (.t 85)), .none⟩,
   ⟨(.some 87), (.load .true 4 (.t 8) .false), (.some (86, .true))⟩,
   ⟨(.some 88), (.load .true 4 (.t 8) .false), (.some (86, .true))⟩,
   ⟨(.some 89), (.call0 18 [(.t 87), (.t 88)]), (.some (86, .true))⟩,
   ⟨(.some 90), (.pick (.t 86) (.t 89) (.c (.d (.bool .false)))), .none⟩,
   ⟨(.some 6), (.mov (.t 90)), .none⟩])
 .ret)
abbrev c5_10 : PCode :=
 (.keep [2, 7, 8, 9, 10] (.seq (.seq (.region [⟨(.some 42), (.mov (.t 2)), .none⟩,
   ⟨(.some 43), (.bsl 1 [(.t 42), (.c (.d (.int .i64 64))), (.c (.d (.int .i64 5)))]), .none⟩,
   ⟨(.some 44), (.len (.t 43)), .none⟩,
   ⟨(.some 45), (.mov (.c (.d (.int .i64 0)))), .none⟩])
 c5_11)
 c5_23))
abbrev c5_9 : PCode :=
 (.keep [2, 7, 8, 9] (.seq (.region [⟨(.some 37), (.load .true 4 (.t 7) .false), .none⟩,
   ⟨(.some 38), (.callp 20 [(.t 37)]), .none⟩,
   ⟨(.some 39), (.load .true 4 (.t 8) .false), .none⟩,
   ⟨(.some 40), (.callp 21 [(.t 39)]), .none⟩,
   ⟨(.some 41), (.callp 26 [(.t 38), (.t 40)]), .none⟩,
   ⟨(.some 10), (.mov (.t 41)), .none⟩])
 c5_10))
abbrev c5_8 : PCode :=
 (.keep [1, 2, 7, 8] (.seq (.region [⟨(.some 30), (.mov (.t 1)), .none⟩,
   ⟨(.some 31), (.bld [(.full []), (.d (.int .i64 0)), (.d (.int .i64 0))] [(0, (1, (.t 30)))]), .none⟩,
   ⟨(.some 32), (.box 3 (.t 31)), .none⟩,
   ⟨(.some 33), (.load .true 4 (.t 7) .false), .none⟩,
   ⟨(.some 34), (.call0 20 [(.t 33)]), .none⟩,
   ⟨(.some 35), (.call0 25 [(.t 32), (.t 34)]), .none⟩,
   ⟨(.some 36), (.call0 24 [(.t 35)]), .none⟩,
   ⟨(.some 9), (.alloc [(.d (.int .i64 0)), (.d (.flt .f64 0)), (.d (.str (bs []))), (.full [])]), .none⟩,
   ⟨.none, (.store 4 (.t 9) (.t 36)), .none⟩])
 c5_9))
abbrev c5_7 : PCode :=
 (.keep [1, 2, 7] (.seq (.region [⟨(.some 27), (.load .true 4 (.t 7) .false), .none⟩,
   ⟨(.some 28), (.mov (.t 1)), .none⟩,
   ⟨(.some 29), (.call0 14 [(.t 27), (.t 28)]), .none⟩,
   ⟨(.some 8), (.alloc [(.d (.int .i64 0)), (.d (.flt .f64 0)), (.d (.str (bs []))), (.full [])]), .none⟩,
   ⟨.none, (.store 4 (.t 8) (.t 29)), .none⟩])
 c5_8))
abbrev c5_6 : PCode :=
 (.keep [1, 2, 3] (.seq (.region [⟨(.some 25), (.load .true 3 (.t 3) .false), .none⟩,
   ⟨(.some 26), (.call0 15 [(.t 25)]), .none⟩,
   ⟨(.some 7), (.alloc [(.d (.int .u8 0)), (.d (.int .i64 0)), (.full []), (.full [])]), .none⟩,
   ⟨.none, (.store 4 (.t 7) (.t 26)), .none⟩])
 c5_7))
abbrev c5_3 : PCode :=
 (.keep [1, 2, 3] (.seq (.seq (.region [⟨(.some 17), (.load .true 3 (.t 3) .false), .none⟩,
   ⟨(.some 18), (.call0 13 [(.t 17), (.c (.d (.int .i64 4)))]), .none⟩,
   ⟨(.some 19), (.not (.t 18)), .none⟩,
   ⟨(.some 20), (.mov (.t 19)), .none⟩,
   ⟨(.some 21), (.mov (.t 1)), (.some (20, .false))⟩,
   ⟨(.some 22), (.len (.t 21)), (.some (20, .false))⟩,
   ⟨(.some 23), (.bin .gtr (.t 22) (.c (.d (.int .i64 60)))), (.some (20, .false))⟩,
   ⟨(.some 24), (.pick (.t 20) (.c (.d (.bool .true))) (.t 23)), .none⟩])
 c5_4)
 c5_6))
abbrev c5_0 : PCode :=
 (.seq (.seq (.region [⟨(.some 15), (.call0 12 []), .none⟩,
   ⟨(.some 16), (.not (.t 15)), .none⟩])
 c5_1)
 c5_3)
def c5 : PFun := ⟨
 (.seq (.region [⟨(.some 3), (.box 3 (.t 0)), .none⟩,
   ⟨(.some 6), (.mov (.c (.d (.bool .false)))), .none⟩])
 c5_0),
 3, 91, [(.tmp 6)]⟩

theorem e5 : entered Try.prog 5 = true := by kernel_rfl
theorem k5 : compFun Try.prog (fun i => if i = 8 then 1 else 0) 5 = some c5.er := by kernel_rfl


theorem min_max (n : Nat) (y : Int) : (if False then if (if True then if (0 : Int) > y then 0 else y else if 0 < y then 0 else y) > (n : Int) then if True then if (0 : Int) > y then 0 else y else if 0 < y then 0 else y else (n : Int) else if (if True then if (0 : Int) > y then 0 else y else if 0 < y then 0 else y) < (n : Int) then if True then if (0 : Int) > y then 0 else y else if 0 < y then 0 else y else (n : Int)) = ((min n (max y 0).toNat : Nat) : Int) := by
  simp only [if_true, if_false]
  repeat' split
  all_goals omega
theorem C5 (x : Nd) (hx : x.fit) (l : List Int) (hr : ∀ x ∈ l, -9223372036854775808 ≤ x ∧ x ≤ 9223372036854775807) (most : Int) (hmo : -9223372036854775808 ≤ most ∧ most ≤ 9223372036854775807) :
    Pure (PCalls Try.prog GG) 5 [x.av, .d (i64s l), .d (.int .i64 most)] (b2 true) := by
  intro st; refine pcalls_of k5 e5 (of_decide_eq_true rfl) ?_; dsimp only [c5]; refine pstartL ?_; intro t hL; generalize hQ : pfin _ _ = Q
  (refine gor hL ?_; (repeat (clear hL; intro t hL; refine gor hL ?_))); refine po_boxA hL ?_; clear hL; intro p3 t hL
  refine gor hL ?_; (repeat (clear hL; intro t hL; refine gor hL ?_))
  refine po_c0 (C12) ?_
  refine gor hL ?_; (repeat (clear hL; intro t hL; refine gor hL ?_))
  refine po_c0 (C13 x 4 hx (by decide)) ?_
  refine gor hL ?_; (repeat (clear hL; intro t hL; refine gor hL ?_))
  refine pcond_b rfl (fun hq => ?_) (fun hq => ?_)
  · refine gor hL ?_; (repeat (clear hL; intro t hL; refine gor hL ?_))
    rw [← hQ]
    exact pfin_pure rfl hL.le
  simp only [Bool.or_eq_false_iff, decide_eq_false_iff_not] at hq
  have hl : l.length < 2 ^ 40 := by omega
  obtain ⟨t1, t2, t3⟩ := typ_le hx
  have hW : WT 4 (Nd.typ 4 x []) := .of_typ (by decide) hx
  have hcs : cost 20 (Nd.typ 4 x []) < 2 ^ 30 := Nat.lt_of_le_of_lt (hW.cost 20) (by decide)
  have hcs4 : 0 + cost 4 (Nd.typ 4 x []) < 2 ^ 60 := Nat.lt_of_le_of_lt (by rw [Nat.zero_add]; exact hW.cost 4) (by decide)
  have hT := C15 x hx
  have hV := C14 l hl hr _ t1 t2 t3
  have hvf : (buildV l (Nd.typ 4 x [])).fit := (buildM_few hr hW 20 0 0).fit (by decide)
  have hcn := buildV_count l hcs
  have his : VT.is 4 (Nd.typ 4 x []) (buildV l (Nd.typ 4 x [])) = true := by rw [← is_deep hW 20 _ (by decide)]; exact buildV_is hr (by decide) hW
  have hRT := C20 4 _ hW
  have hRB := fun pm => refBuildC l hl hr pm 4 _ 0 0 hW (Nat.le_refl _) hcs4
  simp only [← build_deep l hW 20 0 0 (by decide)] at hRB
  have hFR := C26 4 _ _ hW his hvf (by omega)
  have hFl := fun y => C23 y _ _ t1 hvf (fun _ => by omega)
  have hfe := fun y => flatM_eq y hW (by decide) his
  have hCh := C22 _ _ t1 hvf
  rw [VT.checkE, is_deep hW 20 _ (by decide), his] at hCh
  simp only [hfe] at hFl
  simp only [show (buildM l 20 (Nd.typ 4 x []) 0 0).v = buildV l (Nd.typ 4 x []) from rfl] at hRB
  have hfl := Nat.lt_of_le_of_lt (flatR_len hW his) hcn
  generalize buildM l 20 (Nd.typ 4 x []) 0 0 = BM at *
  generalize buildV l (Nd.typ 4 x []) = V at *
  generalize flatR 4 (Nd.typ 4 x []) V = FL at *
  generalize Nd.typ 4 x [] = T at *
  have hRV := C21 V hvf
  have hOf := C24 V hvf
  have hSm := C18 V V hvf
  rw [VT.same_refl] at hSm
  simp only [VT.av_eq, KT.av_eq, KT.rav_eq, if_true] at hT hV hRT hRB hFR hFl hCh hRV hOf hSm
  refine gor hL ?_; (repeat (clear hL; intro t hL; refine gor hL ?_))
  refine po_c0 (hT) ?_
  refine gor hL ?_; (repeat (clear hL; intro t hL; refine gor hL ?_))
  (refine gor hL ?_; (repeat (clear hL; intro t hL; refine gor hL ?_))); (with_reducible refine po_allocL hL rfl ?_); clear hL; intro p7 t hL
  refine gor hL ?_; (repeat (clear hL; intro t hL; refine gor hL ?_))
  refine po_c0 (hV) ?_
  refine gor hL ?_; (repeat (clear hL; intro t hL; refine gor hL ?_))
  (refine gor hL ?_; (repeat (clear hL; intro t hL; refine gor hL ?_))); (with_reducible refine po_allocL hL rfl ?_); clear hL; intro p8 t hL
  refine gor hL ?_; (repeat (clear hL; intro t hL; refine gor hL ?_))
  (refine gor hL ?_; (repeat (clear hL; intro t hL; refine gor hL ?_))); refine po_boxA hL ?_; clear hL; intro p32 t hL
  refine gor hL ?_; (repeat (clear hL; intro t hL; refine gor hL ?_))
  refine po_c0 (hRT) ?_
  refine gor hL ?_; (repeat (clear hL; intro t hL; refine gor hL ?_))
  refine po_callK hL (hRB p32) ?_; clear hL; intro _ t hL
  refine gor hL ?_; (repeat (clear hL; intro t hL; refine gor hL ?_))
  refine po_c0 (hOf) ?_
  refine gor hL ?_; (repeat (clear hL; intro t hL; refine gor hL ?_))
  (refine gor hL ?_; (repeat (clear hL; intro t hL; refine gor hL ?_))); (with_reducible refine po_allocL hL rfl ?_); clear hL; intro p9 t hL
  refine gor hL ?_; (repeat (clear hL; intro t hL; refine gor hL ?_))
  refine po_cp (hRT) ?_
  refine gor hL ?_; (repeat (clear hL; intro t hL; refine gor hL ?_))
  refine po_cp (hRV) ?_
  refine gor hL ?_; (repeat (clear hL; intro t hL; refine gor hL ?_))
  refine po_cp (hFR) ?_
  refine gor hL ?_; (repeat (clear hL; intro t hL; refine gor hL ?_))
  refine gnm ?_; rw [show (AV.full [[Dat.int .i64 most], [Dat.int .i64 64], [Dat.int .i64 5]]) = .full (rowsI [most, 64, 5]) from rfl]
  (apply prangeK hL (3) (by omega) (fun _ => True)); (· exact trimA); (· exact fun _ => rfl)
  · trivial
  · intro t hL _
    refine gor hL ?_; (repeat (clear hL; intro t hL; refine gor hL ?_))
    refine po_c0 (hSm) ?_
    refine gor hL ?_; (repeat (clear hL; intro t hL; refine gor hL ?_))
    refine po_c0 (hCh) ?_
    refine gor hL ?_; (repeat (clear hL; intro t hL; refine gor hL ?_))
    refine po_c0 (hSm) ?_
    refine gor hL ?_; (repeat (clear hL; intro t hL; refine gor hL ?_))
    rw [← hQ]
    exact pfin_pure rfl hL.le
  · intro k hk t hL _
    obtain ⟨y, hy, hym⟩ := elem_at (l := [most, 64, 5]) (k := k) (by simpa using hk)
    have hFy := hFl y
    have hGl : (FL.take (max y 0).toNat).length = min FL.length (max y 0).toNat := by rw [List.length_take, Nat.min_comm]
    have hGg : ∀ (i : Nat) (z : Int), (FL.take (max y 0).toNat)[i]? = some z → FL[i]? = some z := fun i z h => by
      rw [List.getElem?_take] at h
      split at h
      · exact h
      · cases h
    refine pblock ?_
    refine gor hL ?_; (repeat (clear hL; intro t hL; refine gor hL ?_))
    refine po_c0 (hFy) ?_
    generalize FL.take (max y 0).toNat = GL at *
    refine gor hL ?_; (repeat (clear hL; intro t hL; refine gor hL ?_))
    refine gnm ?_; rw [min_max, hGl]
    refine gor hL ?_; (repeat (clear hL; intro t hL; refine gor hL ?_))
    (apply prangeK hL (GL.length) (by omega) (fun _ => True)); (· exact trimA); (· exact fun _ => rfl)
    · trivial
    · intro t hL _
      refine gor hL ?_; (repeat (clear hL; intro t hL; refine gor hL ?_))
      first | exact ⟨hL.pk, trivial⟩ | exact ⟨hL.pk, trivial, tr2⟩
    · intro j hj t hL _
      obtain ⟨z, hz, _⟩ := elem_at hj
      have hz' := hGg j z hz
      refine pblock ?_
      refine gor hL ?_; (repeat (clear hL; intro t hL; refine gor hL ?_))
      first | exact ⟨hL.pk, trivial⟩ | exact ⟨hL.pk, trivial, tr2⟩
end Go.Pv
