/- Functions of the program, by value. No condition. -/
import Derived.Test.YtmcdhendjlijhaaV9
import Derived.Test.YtmcdhendjlijhaaE1
namespace Go.Pv
open Go.Proofs
set_option maxRecDepth 100000
set_option maxHeartbeats 8000000

/-- prompter/value.Flat -/
abbrev c16_5 : PCode :=
 (.region [⟨(.some 14), (.load .false 1 (.t 8) .false), .none⟩,
   ⟨(.some 15), (.load .true 4 (.t 3) .false), .none⟩,
   ⟨(.some 16), (.load .true 4 (.t 4) .false), .none⟩,
   ⟨(.some 17), (.callv0 (.t 14) [(.t 15), (.t 16)]), .none⟩])
abbrev c16_4 : PCode :=
 (.cond (.t 13)
  c16_5
  .skip)
abbrev c16_6 : PCode :=
 (.keep [5, 7] (.seq (.region [⟨(.some 18), (.load .false 1 (.t 7) .false), .none⟩,
   ⟨(.some 19), (.load .false 1 (.t 7) .false), .none⟩,
   ⟨(.some 20), (.len (.t 19)), .none⟩,
   ⟨(.some 21), (.load .false 1 (.t 5) .false), .none⟩,
   ⟨(.some 22), (.minmax .true (.t 21) [(.c (.d (.int .i64 0)))]), .none⟩,
   ⟨(.some 23), (.minmax .false (.t 20) [(.t 22)]), .none⟩,
   ⟨(.some 24), (.slc 1 (.t 18) .none (.some (.t 23))), .none⟩,
   ⟨(.some 6), (.mov (.t 24)), .none⟩])
 .ret))
abbrev c16_3 : PCode :=
 (.seq (.seq (.region [⟨(.some 10), (.load .true 4 (.t 3) .false), .none⟩,
   ⟨(.some 11), (.load .true 4 (.t 4) .false), .none⟩,
   ⟨(.some 12), (.call0 27 [(.t 10), (.t 11)]), .none⟩,
   ⟨(.some 13), (.bin .eql (.t 12) (.c (.d (.int .i64 0)))), .none⟩])
 c16_4)
 c16_6)
abbrev c16_2 : PCode :=
 (.seq (.region [⟨(.some 9), (.mkfn 36 [] [(.t 7), (.t 5), (.t 8)]), .none⟩,
   ⟨.none, (.store 1 (.t 8) (.t 9)), .none⟩])
 c16_3)
abbrev c16_1 : PCode :=
 (.seq (.region [⟨(.some 8), (.alloc [(.d .nilf)]), .none⟩])
 c16_2)
abbrev c16_0 : PCode :=
 (.keep [3, 4, 5] (.seq (.region [⟨(.some 7), (.alloc [(.full [])]), .none⟩])
 c16_1))
def c16 : PFun := ⟨
 (.seq (.region [⟨(.some 3), (.box 4 (.t 0)), .none⟩,
   ⟨(.some 4), (.box 4 (.t 1)), .none⟩,
   ⟨(.some 5), (.box 1 (.t 2)), .none⟩,
   ⟨(.some 6), (.mov (.c (.full []))), .none⟩])
 c16_0),
 3, 25, [(.tmp 6)]⟩

/-- prompter/value.Flat$1 -/
abbrev c36_1 : PCode :=
 (.cond (.t 14)
  .ret
  .skip)
abbrev c36_5 : PCode :=
 (.region [⟨(.some 24), (.load .false 1 (.t 2) .false), .none⟩,
   ⟨(.some 25), (.faddr 1 (.t 6)), .none⟩,
   ⟨(.some 26), (.load .false 1 (.t 25) .false), .none⟩,
   ⟨(.some 27), (.callp 37 [(.t 26)]), .none⟩,
   ⟨(.some 28), (.bsl 1 [(.t 27)]), .none⟩,
   ⟨(.some 29), (.app 1 8 (.t 24) (.t 28)), .none⟩,
   ⟨.none, (.store 1 (.t 2) (.t 29)), .none⟩])
abbrev c36_8 : PCode :=
 (.region [⟨(.some 32), (.load .false 1 (.t 2) .false), .none⟩,
   ⟨(.some 33), (.faddr 2 (.t 6)), .none⟩,
   ⟨(.some 34), (.load .false 1 (.t 33) .false), .none⟩,
   ⟨(.some 35), (.lenS (.t 34)), .none⟩,
   ⟨(.some 36), (.bsl 1 [(.t 35)]), .none⟩,
   ⟨(.some 37), (.app 1 8 (.t 32) (.t 36)), .none⟩,
   ⟨.none, (.store 1 (.t 2) (.t 37)), .none⟩])
abbrev c36_15 : PCode :=
 (.region [⟨(.some 53), (.load .false 1 (.t 4) .false), .none⟩,
   ⟨(.some 54), (.faddr 3 (.t 5)), .none⟩,
   ⟨(.some 55), (.load .false 1 (.t 54) .false), .none⟩,
   ⟨(.some 56), (.iaddr 4 (.t 55) (.c (.d (.int .i64 0)))), .none⟩,
   ⟨(.some 57), (.load .true 4 (.t 56) .false), .none⟩,
   ⟨(.some 58), (.load .true 4 (.t 8) .false), .none⟩,
   ⟨(.some 59), (.callv0 (.t 53) [(.t 57), (.t 58)]), .none⟩])
abbrev c36_14 : PCode :=
 (.block 2 (.seq (.region [⟨(.some 51), (.iaddr 4 (.t 47) (.t 49)), .none⟩,
   ⟨(.some 52), (.load .true 4 (.t 51) .false), .none⟩,
   ⟨(.some 8), (.alloc [(.d (.int .i64 0)), (.d (.flt .f64 0)), (.d (.str (bs []))), (.full [])]), .none⟩,
   ⟨.none, (.store 4 (.t 8) (.t 52)), .none⟩])
 c36_15))
abbrev c36_13 : PCode :=
 (.keep [4, 5, 47, 48, 49] (.block 1 (.loop (.some [49, 4, 5, 47, 48]) (.seq (.region [⟨(.some 50), (.bin .lss (.t 49) (.t 48)), .none⟩])
 (.seq (.cond (.t 50)
  .skip
  (.exit 1))
 (.seq c36_14
 (.region [⟨(.some 60), (.bin .add (.t 49) (.c (.d (.int .i64 1)))), .none⟩,
   ⟨(.some 49), (.mov (.t 60)), .none⟩])))))))
abbrev c36_12 : PCode :=
 (.keep [4, 5, 6] (.seq (.region [⟨(.some 46), (.faddr 3 (.t 6)), .none⟩,
   ⟨(.some 47), (.load .false 1 (.t 46) .false), .none⟩,
   ⟨(.some 48), (.len (.t 47)), .none⟩,
   ⟨(.some 49), (.mov (.c (.d (.int .i64 0)))), .none⟩])
 c36_13))
abbrev c36_11 : PCode :=
 (.seq (.region [⟨(.some 40), (.load .false 1 (.t 2) .false), .none⟩,
   ⟨(.some 41), (.faddr 3 (.t 6)), .none⟩,
   ⟨(.some 42), (.load .false 1 (.t 41) .false), .none⟩,
   ⟨(.some 43), (.len (.t 42)), .none⟩,
   ⟨(.some 44), (.bsl 1 [(.t 43)]), .none⟩,
   ⟨(.some 45), (.app 1 8 (.t 40) (.t 44)), .none⟩,
   ⟨.none, (.store 1 (.t 2) (.t 45)), .none⟩])
 c36_12)
abbrev c36_21 : PCode :=
 (.keep [4, 5, 9, 10, 64, 65, 66] (.region [⟨(.some 71), (.load .false 1 (.t 4) .false), .none⟩,
   ⟨(.some 72), (.faddr 3 (.t 5)), .none⟩,
   ⟨(.some 73), (.load .false 1 (.t 72) .false), .none⟩,
   ⟨(.some 74), (.mov (.t 9)), .none⟩,
   ⟨(.some 75), (.iaddr 4 (.t 73) (.t 74)), .none⟩,
   ⟨(.some 76), (.load .true 4 (.t 75) .false), .none⟩,
   ⟨(.some 77), (.load .true 4 (.t 10) .false), .none⟩,
   ⟨(.some 78), (.callv0 (.t 71) [(.t 76), (.t 77)]), .none⟩]))
abbrev c36_20 : PCode :=
 (.block 4 (.seq (.region [⟨(.some 68), (.mov (.t 66)), .none⟩,
   ⟨(.some 69), (.iaddr 4 (.t 64) (.t 66)), .none⟩,
   ⟨(.some 70), (.load .true 4 (.t 69) .false), .none⟩,
   ⟨(.some 10), (.alloc [(.d (.int .i64 0)), (.d (.flt .f64 0)), (.d (.str (bs []))), (.full [])]), .none⟩,
   ⟨(.some 9), (.mov (.t 68)), .none⟩,
   ⟨.none, (.store 4 (.t 10) (.t 70)), .none⟩])
 c36_21))
abbrev c36_19 : PCode :=
 (.keep [4, 5, 64, 65, 66] (.block 3 (.loop (.some [66, 4, 5, 64, 65]) (.seq (.region [⟨(.some 67), (.bin .lss (.t 66) (.t 65)), .none⟩])
 (.seq (.cond (.t 67)
  .skip
  (.exit 3))
 (.seq c36_20
 (.region [⟨(.some 79), (.bin .add (.t 66) (.c (.d (.int .i64 1)))), .none⟩,
   ⟨(.some 66), (.mov (.t 79)), .none⟩])))))))
abbrev c36_18 : PCode :=
 (.seq (.region [⟨(.some 63), (.faddr 3 (.t 6)), .none⟩,
   ⟨(.some 64), (.load .false 1 (.t 63) .false), .none⟩,
   ⟨(.some 65), (.len (.t 64)), .none⟩,
   ⟨(.some 66), (.mov (.c (.d (.int .i64 0)))), .none⟩])
 c36_19)
abbrev c36_25 : PCode :=
 (.keep [4, 5, 6] (.region [⟨(.some 87), (.load .false 1 (.t 4) .false), .none⟩,
   ⟨(.some 88), (.faddr 3 (.t 5)), .none⟩,
   ⟨(.some 89), (.load .false 1 (.t 88) .false), .none⟩,
   ⟨(.some 90), (.faddr 0 (.t 6)), .none⟩,
   ⟨(.some 91), (.load .false 1 (.t 90) .false), .none⟩,
   ⟨(.some 92), (.iaddr 4 (.t 89) (.t 91)), .none⟩,
   ⟨(.some 93), (.load .true 4 (.t 92) .false), .none⟩,
   ⟨(.some 94), (.faddr 3 (.t 6)), .none⟩,
   ⟨(.some 95), (.load .false 1 (.t 94) .false), .none⟩,
   ⟨(.some 96), (.iaddr 4 (.t 95) (.c (.d (.int .i64 0)))), .none⟩,
   ⟨(.some 97), (.load .true 4 (.t 96) .false), .none⟩,
   ⟨(.some 98), (.callv0 (.t 87) [(.t 93), (.t 97)]), .none⟩]))
abbrev c36_24 : PCode :=
 (.seq (.region [⟨(.some 82), (.load .false 1 (.t 2) .false), .none⟩,
   ⟨(.some 83), (.faddr 0 (.t 6)), .none⟩,
   ⟨(.some 84), (.load .false 1 (.t 83) .false), .none⟩,
   ⟨(.some 85), (.bsl 1 [(.t 84)]), .none⟩,
   ⟨(.some 86), (.app 1 8 (.t 82) (.t 85)), .none⟩,
   ⟨.none, (.store 1 (.t 2) (.t 86)), .none⟩])
 c36_25)
abbrev c36_26 : PCode :=
 (.region [⟨(.some 17), (.load .false 1 (.t 2) .false), .none⟩,
   ⟨(.some 18), (.faddr 0 (.t 6)), .none⟩,
   ⟨(.some 19), (.load .false 1 (.t 18) .false), .none⟩,
   ⟨(.some 20), (.bsl 1 [(.t 19)]), .none⟩,
   ⟨(.some 21), (.app 1 8 (.t 17) (.t 20)), .none⟩,
   ⟨.none, (.store 1 (.t 2) (.t 21)), .none⟩])
abbrev c36_23 : PCode :=
 (.cond (.t 80)
  c36_24
  c36_26)
abbrev c36_22 : PCode :=
 (.seq (.region [⟨(.some 81), (.bin .eql (.t 16) (.c (.d (.int .u8 8)))), .none⟩,
   ⟨(.some 80), (.mov (.t 81)), .none⟩])
 c36_23)
abbrev c36_17 : PCode :=
 (.cond (.t 61)
  c36_18
  c36_22)
abbrev c36_16 : PCode :=
 (.seq (.region [⟨(.some 62), (.bin .eql (.t 16) (.c (.d (.int .u8 6)))), .none⟩,
   ⟨(.some 61), (.mov (.t 62)), .none⟩])
 c36_17)
abbrev c36_10 : PCode :=
 (.cond (.t 38)
  c36_11
  c36_16)
abbrev c36_9 : PCode :=
 (.seq (.region [⟨(.some 39), (.bin .eql (.t 16) (.c (.d (.int .u8 5)))), .none⟩,
   ⟨(.some 38), (.mov (.t 39)), .none⟩])
 c36_10)
abbrev c36_7 : PCode :=
 (.cond (.t 30)
  c36_8
  c36_9)
abbrev c36_6 : PCode :=
 (.seq (.region [⟨(.some 31), (.bin .eql (.t 16) (.c (.d (.int .u8 4)))), .none⟩,
   ⟨(.some 30), (.mov (.t 31)), .none⟩])
 c36_7)
abbrev c36_4 : PCode :=
 (.cond (.t 22)
  c36_5
  c36_6)
abbrev c36_3 : PCode :=
 (.block 0 (.seq (.region [⟨(.some 23), (.bin .eql (.t 16) (.c (.d (.int .u8 3)))), .none⟩,
   ⟨(.some 22), (.mov (.t 23)), .none⟩])
 c36_4))
abbrev c36_2 : PCode :=
 (.keep [2, 4, 5, 6] (.seq (.region [⟨(.some 15), (.faddr 0 (.t 5)), .none⟩,
   ⟨(.some 16), (.load .false 1 (.t 15) .false), .none⟩])
 c36_3))
abbrev c36_0 : PCode :=
 (.seq (.seq (.region [⟨(.some 11), (.load .false 1 (.t 2) .false), .none⟩,
   ⟨(.some 12), (.len (.t 11)), .none⟩,
   ⟨(.some 13), (.load .false 1 (.t 3) .false), .none⟩,
   ⟨(.some 14), (.bin .geq (.t 12) (.t 13)), .none⟩])
 c36_1)
 c36_2)
def c36 : PFun := ⟨
 (.seq (.region [⟨(.some 5), (.box 4 (.t 0)), .none⟩,
   ⟨(.some 6), (.box 4 (.t 1)), .none⟩])
 c36_0),
 5, 99, []⟩

/-- prompter/real.Whole -/
abbrev c37_2 : PCode :=
 (.seq (.region [⟨(.some 2), (.mov (.c (.d (.int .i64 0)))), .none⟩])
 .ret)
abbrev c37_5 : PCode :=
 (.seq (.region [⟨(.some 2), (.mov (.c (.d (.int .i64 2147483648)))), .none⟩])
 .ret)
abbrev c37_8 : PCode :=
 (.seq (.region [⟨(.some 2), (.mov (.c (.d (.int .i64 (-2147483648))))), .none⟩])
 .ret)
abbrev c37_7 : PCode :=
 (.cond (.t 10)
  c37_8
  .skip)
abbrev c37_6 : PCode :=
 (.seq (.region [⟨(.some 11), (.mov (.t 0)), .none⟩,
   ⟨(.some 12), (.bin .leq (.t 11) (.c (.d (.flt .f64 13970166044103278592)))), .none⟩,
   ⟨(.some 10), (.mov (.t 12)), .none⟩])
 c37_7)
abbrev c37_4 : PCode :=
 (.cond (.t 7)
  c37_5
  c37_6)
abbrev c37_3 : PCode :=
 (.seq (.region [⟨(.some 8), (.mov (.t 0)), .none⟩,
   ⟨(.some 9), (.bin .geq (.t 8) (.c (.d (.flt .f64 4746794007248502784)))), .none⟩,
   ⟨(.some 7), (.mov (.t 9)), .none⟩])
 c37_4)
abbrev c37_1 : PCode :=
 (.cond (.t 3)
  c37_2
  c37_3)
abbrev c37_9 : PCode :=
 (.seq (.region [⟨(.some 13), (.mov (.t 0)), .none⟩,
   ⟨(.some 14), (.cvtI .i64 (.t 13)), .none⟩,
   ⟨(.some 2), (.mov (.t 14)), .none⟩])
 .ret)
abbrev c37_0 : PCode :=
 (.seq (.block 0 (.seq (.region [⟨(.some 4), (.mov (.t 0)), .none⟩,
   ⟨(.some 5), (.mov (.t 0)), .none⟩,
   ⟨(.some 6), (.bin .neq (.t 4) (.t 5)), .none⟩,
   ⟨(.some 3), (.mov (.t 6)), .none⟩])
 c37_1))
 c37_9)
def c37 : PFun := ⟨
 (.seq (.region [⟨(.some 2), (.mov (.c (.d (.int .i64 0)))), .none⟩])
 c37_0),
 1, 15, [(.tmp 2)]⟩

theorem e16 : entered Try.prog 16 = true := by kernel_rfl
theorem k16 : compFun Try.prog (fun _ => 0) 16 = some c16.er := by kernel_rfl
theorem e36 : entered Try.prog 36 = true := by kernel_rfl
theorem k36 : compFun Try.prog (fun i => if i = 5 then 1 else 0) 36 = some c36.er := by kernel_rfl
theorem e37 : entered Try.prog 37 = true := by kernel_rfl
theorem k37 : compFun Try.prog (fun _ => 0) 37 = some c37.er := by kernel_rfl


theorem C37 (b : Nat) : Pure (PCalls Try.prog GG) 37 [.d (.flt .f64 b)] (.d (.int .i64 (wholeF b))) := by
  intro st; refine pcalls_of k37 e37 (of_decide_eq_true rfl) ?_; dsimp only [c37]; refine pstartL ?_; intro t hL; generalize hQ : pfin _ _ = Q
  refine gor hL ?_; (repeat (clear hL; intro t hL; refine gor hL ?_))
  refine pcond_b rfl (fun h0 => ?_) (fun h0 => ?_)
  · rw [wholeF, if_pos h0] at hQ
    refine gor hL ?_; (repeat (clear hL; intro t hL; refine gor hL ?_))
    rw [← hQ]
    exact pfin_pure rfl hL.le
  have h0' : (F64.order b b != some .eq) = false := h0
  refine gor hL ?_; (repeat (clear hL; intro t hL; refine gor hL ?_))
  refine pcond_b rfl (fun h1 => ?_) (fun h1 => ?_)
  · rw [wholeF, if_neg (by rw [h0']; decide), if_pos h1] at hQ
    refine gor hL ?_; (repeat (clear hL; intro t hL; refine gor hL ?_))
    rw [← hQ]
    exact pfin_pure rfl hL.le
  have h1' : (F64.order b farB == some .gt || F64.order b farB == some .eq) = false := h1
  refine gor hL ?_; (repeat (clear hL; intro t hL; refine gor hL ?_))
  refine pcond_b rfl (fun h2 => ?_) (fun h2 => ?_)
  · rw [wholeF, if_neg (by rw [h0']; decide), if_neg (by rw [h1']; decide), if_pos h2] at hQ
    refine gor hL ?_; (repeat (clear hL; intro t hL; refine gor hL ?_))
    rw [← hQ]
    exact pfin_pure rfl hL.le
  have h2' : (F64.order b nfarB == some .lt || F64.order b nfarB == some .eq) = false := h2
  obtain ⟨n, hn, hr⟩ := whole_some h0' h1' h2'
  rw [wholeF, if_neg (by rw [h0']; decide), if_neg (by rw [h1']; decide), if_neg (by rw [h2']; decide), hn] at hQ
  refine gor hL ?_; (repeat (clear hL; intro t hL; refine gor hL ?_))
  refine po rfl (show ev _ _ _ = some (.d (.int .i64 n)) from ?_) ?_
  · show (match (FloatKind.f64.decode b).toInt .zero with | some n => if IntKind.i64.min ≤ n ∧ n ≤ IntKind.i64.max then some (AV.d (.int .i64 n)) else none | none => none) = _
    rw [hn]
    exact if_pos ⟨by simp [IntKind.min, IntKind.signed, IntKind.bits]; omega, by simp [IntKind.max, IntKind.signed, IntKind.bits]; omega⟩
  refine gor hL ?_; (repeat (clear hL; intro t hL; refine gor hL ?_))
  rw [← hQ]
  exact pfin_pure rfl hL.le

abbrev rowsI (l : List Int) : List (List Dat) := l.map fun n => [.int .i64 n]
theorem rowsI_len (l : List Int) : ∀ r ∈ rowsI l, r.length = 1 := fun r hr => by obtain ⟨x, _, rfl⟩ := List.mem_map.1 hr; rfl
theorem rowsI_app (l : List Int) (n : Int) : rowsI l ++ [[.int .i64 n]] = rowsI (l ++ [n]) := by rw [rowsI, rowsI, List.map_append]; rfl
def capW (pq pm pw : Nat) : AV := .d (.fn 36 [] [.ptr pq 0, .ptr pm 0, .ptr pw 0])
def wF (pq pm pw : Nat) (most : Int) (v : AV) (l : List Int) : List Item := [.box pq [v], .vec v (rowsI l) 1, .box pm [.d (.int .i64 most)], .box pw [capW pq pm pw]]
theorem walkC (most : Int) (pq pm pw : Nat) (hnd : [pq, pm, pw].Nodup) : ∀ (d : Nat) (t : KT) (v : VT) (out : List Int) (v0 : AV), VT.is d t v = true → t.fit → v.fit → out.length + v.count < 2 ^ 40 →
    CL (PCalls Try.prog GG) 36 [t.av, v.av, ptrAt pq, ptrAt pm, ptrAt pw] (wF pq pm pw most v0 out) (fun _ : AV => .tup []) (fun a => wF pq pm pw most a (walkM most d t v out)) := by
  intro d
  induction d with
  | zero => intro t v out v0 h; cases h
  | succ d ih =>
  intro T v out v0 his hT hv hlen
  refine ⟨Sat.out pq [v0] (fun a => [a]) v0 _ _ 1 1 [(pm, [.d (.int .i64 most)]), (pw, [capW pq pm pw])] hnd, ?_⟩
  have hcnt := VT.count_eq v
  rw [KT.av_eq, VT.av_eq]
  simp only [wF, capW] at ih ⊢
  rw [walkM]
  intro st t hL; refine pcalls_of k36 e36 (of_decide_eq_true rfl) ?_; dsimp only [c36]; generalize hQ : pfin _ _ = Q
  have f0 := hL.vk v0
  obtain ⟨f0_r, f0_w, f0_w1, f0_c, f0_s, f0_d⟩ := id f0
  (refine gor hL ?_; (repeat (clear hL; intro t hL; refine gor hL ?_))); refine po_boxA hL ?_; clear hL; intro p5 t hL
  (refine gor hL ?_; (repeat (clear hL; intro t hL; refine gor hL ?_))); refine po_boxA hL ?_; clear hL; intro p6 t hL
  refine gor hL ?_; (repeat (clear hL; intro t hL; refine gor hL ?_))
  refine pcond_b rfl (fun h0 => ?_) (fun h0 => ?_)
  · have h0' : (out.length : Int) ≥ most := by simpa using h0
    rw [if_pos h0'] at hQ
    refine gor hL ?_; (repeat (clear hL; intro t hL; refine gor hL ?_))
    rw [← hQ]
    exact pfinK v0 rfl (.inl rfl) hL
  have h0' : ¬ (out.length : Int) ≥ most := by simpa using h0
  rw [if_neg h0'] at hQ
  refine gor hL ?_; (repeat (clear hL; intro t hL; refine gor hL ?_))
  refine pcond_b rfl (fun h3 => ?_) (fun h3 => ?_)
  · have h3' : T.kind = 3 := by simpa using h3
    rw [if_pos h3'] at hQ
    refine gor hL ?_; (repeat (clear hL; intro t hL; refine gor hL ?_))
    refine po_cp (C37 v.f) ?_
    refine gor hL ?_; (repeat (clear hL; intro t hL; refine gor hL ?_))
    refine po_appA hL (rowsI_len out) ?_ ?_; (· simp; omega); clear hL; intro v1 t f1 hL; obtain ⟨f1_r, f1_w, f1_w1, f1_c, f1_s, f1_d⟩ := id f1
    rw [rowsI_app] at hL
    refine gor hL ?_; (repeat (clear hL; intro t hL; refine gor hL ?_))
    rw [← hQ]
    exact pfinK v1 rfl (.inl rfl) hL
  have n3 : ¬ T.kind = 3 := by simpa using h3
  rw [if_neg n3] at hQ
  refine gor hL ?_; (repeat (clear hL; intro t hL; refine gor hL ?_))
  refine pcond_b rfl (fun h4 => ?_) (fun h4 => ?_)
  · have h4' : T.kind = 4 := by simpa using h4
    rw [if_pos h4'] at hQ
    refine gor hL ?_; (repeat (clear hL; intro t hL; refine gor hL ?_))
    refine po_appA hL (rowsI_len out) ?_ ?_; (· simp; omega); clear hL; intro v1 t f1 hL; obtain ⟨f1_r, f1_w, f1_w1, f1_c, f1_s, f1_d⟩ := id f1
    rw [rowsI_app] at hL
    refine gor hL ?_; (repeat (clear hL; intro t hL; refine gor hL ?_))
    rw [← hQ]
    exact pfinK v1 rfl (.inl rfl) hL
  have n4 : ¬ T.kind = 4 := by simpa using h4
  rw [if_neg n4] at hQ
  refine gor hL ?_; (repeat (clear hL; intro t hL; refine gor hL ?_))
  refine pcond_b rfl (fun h5 => ?_) (fun h5 => ?_)
  · have h5' : T.kind = 5 := by simpa using h5
    rw [if_pos h5'] at hQ
    obtain ⟨_, _, ho1, hall⟩ := is_5 h5' his
    obtain ⟨y, hy, hym⟩ := elem_at (l := T.of) (k := 0) (by omega)
    have hg : T.of.getD 0 (.mk 0 0 [] []) = y := by rw [List.getD_eq_getElem?_getD, hy]; rfl
    rw [hg] at hQ hall
    have hyf := ((KT.fit_eq T).1 hT).2.2 _ hym
    have hvl := hv.len
    refine gor hL ?_; (repeat (clear hL; intro t hL; refine gor hL ?_))
    refine po_appA hL (rowsI_len out) ?_ ?_; (· simp; omega); clear hL; intro v1 t f1 hL; obtain ⟨f1_r, f1_w, f1_w1, f1_c, f1_s, f1_d⟩ := id f1
    rw [rowsI_app] at hL
    refine gor hL ?_; (repeat (clear hL; intro t hL; refine gor hL ?_))
    have hfl : ∀ k, (v.of.take k |>.foldl (fun o x => walkM most d y x o) (out ++ [(v.of.length : Int)])).length ≤ out.length + 1 + ((v.of.take k).map VT.count).sum := fun k => by
      have := foldl_len (f := fun o x => walkM most d y x o) (o := out ++ [(v.of.length : Int)]) (xs := v.of.take k) fun x hx o => walkM_len most d y x o (hall x (List.mem_of_mem_take hx))
      simpa using this
    (apply prangeJ (v.of.length) (by omega) (fun k t => ∃ a, Lay st [.box pq [a], .vec a (rowsI (v.of.take k |>.foldl (fun o x => walkM most d y x o) (out ++ [(v.of.length : Int)]))) 1, .box pm [.d (.int .i64 most)], .box pw [.d (.fn 36 [] [.ptr pq 0, .ptr pm 0, .ptr pw 0])], .box p6 [.d (.int .i64 v.n), .d (.flt .f64 v.f), .d (.str v.s), .d (.sl (v.of.map VT.row))], .box p5 [.d (.int .u8 T.kind), .d (.int .i64 T.most), .d (.sl (T.names.map fun s => [.str s])), .d (.sl (T.of.map KT.row))]] t)); (· exact trimA); (· exact fun _ => rfl)
    · exact ⟨v1, hL.pk⟩
    · rintro t ⟨a, hL⟩
      rw [List.take_length] at hL
      refine gor hL ?_; (repeat (clear hL; intro t hL; refine gor hL ?_))
      rw [← hQ]
      exact pfinK a rfl (.inl rfl) hL
    · rintro k hk t ⟨a, hL⟩
      obtain ⟨x, hx, hxm⟩ := elem_at hk
      have hsn := take_snoc hx
      have hcs : ((v.of.take k).map VT.count).sum + x.count ≤ (v.of.map VT.count).sum := by
        have : (v.of.take (k + 1)).map VT.count = (v.of.take k).map VT.count ++ [x.count] := by rw [hsn, List.map_append]; rfl
        have h2 : ((v.of.take (k + 1)).map VT.count).sum ≤ (v.of.map VT.count).sum := by
          conv => rhs; rw [← List.take_append_drop (k + 1) v.of, List.map_append, List.sum_append]
          omega
        rw [this, List.sum_append, List.sum_singleton] at h2
        exact h2
      have hfk := hfl k
      refine pblock ?_
      (refine gor hL ?_; (repeat (clear hL; intro t hL; refine gor hL ?_))); (with_reducible refine po_allocL hL rfl ?_); clear hL; intro p8 t hL
      refine gor hL ?_; (repeat (clear hL; intro t hL; refine gor hL ?_))
      have hi := ih y x _ a (hall x hxm) hyf (hv.part hxm) (show (v.of.take k |>.foldl (fun o x => walkM most d y x o) (out ++ [(v.of.length : Int)])).length + x.count < 2 ^ 40 by omega)
      rw [KT.av_eq, VT.av_eq] at hi
      refine po_callvK hL hi ?_
      clear hL; intro a' t hL
      refine gor hL ?_; (repeat (clear hL; intro t hL; refine gor hL ?_))
      refine ⟨⟨a', ?_⟩, tr2⟩
      rw [hsn, List.foldl_append]
      exact hL.pk
  have n5 : ¬ T.kind = 5 := by simpa using h5
  rw [if_neg n5] at hQ
  refine gor hL ?_; (repeat (clear hL; intro t hL; refine gor hL ?_))
  refine pcond_b rfl (fun h6 => ?_) (fun h6 => ?_)
  · have h6' : T.kind = 6 := by simpa using h6
    rw [if_pos h6'] at hQ
    obtain ⟨_, ho1, hall⟩ := is_6 h6' his
    have hvl := hv.len
    refine gor hL ?_; (repeat (clear hL; intro t hL; refine gor hL ?_))
    (apply prangeJ (v.of.length) (by omega) (fun k t => ∃ a, Lay st [.box pq [a], .vec a (rowsI (foldZ (walkM most d) (T.of.take k) (v.of.take k) out)) 1, .box pm [.d (.int .i64 most)], .box pw [.d (.fn 36 [] [.ptr pq 0, .ptr pm 0, .ptr pw 0])], .box p6 [.d (.int .i64 v.n), .d (.flt .f64 v.f), .d (.str v.s), .d (.sl (v.of.map VT.row))], .box p5 [.d (.int .u8 T.kind), .d (.int .i64 T.most), .d (.sl (T.names.map fun s => [.str s])), .d (.sl (T.of.map KT.row))]] t)); (· exact trimA); (· exact fun _ => rfl)
    · exact ⟨v0, hL.pk⟩
    · rintro t ⟨a, hL⟩
      have e : T.of.take v.of.length = T.of := by rw [ho1, List.take_length]
      rw [List.take_length, e] at hL
      refine gor hL ?_; (repeat (clear hL; intro t hL; refine gor hL ?_))
      rw [← hQ]
      exact pfinK a rfl (.inl rfl) hL
    · rintro k hk t ⟨a, hL⟩
      obtain ⟨x, hx, hxm⟩ := elem_at hk
      obtain ⟨y, hy, hym⟩ := elem_at (l := T.of) (k := k) (by omega)
      have hyf := ((KT.fit_eq T).1 hT).2.2 _ hym
      have hsn := take_snoc hx
      have hcs : ((v.of.take k).map VT.count).sum + x.count ≤ (v.of.map VT.count).sum := by
        have : (v.of.take (k + 1)).map VT.count = (v.of.take k).map VT.count ++ [x.count] := by rw [hsn, List.map_append]; rfl
        have h2 : ((v.of.take (k + 1)).map VT.count).sum ≤ (v.of.map VT.count).sum := by
          conv => rhs; rw [← List.take_append_drop (k + 1) v.of, List.map_append, List.sum_append]
          omega
        rw [this, List.sum_append, List.sum_singleton] at h2
        exact h2
      have hfk := foldZ_lenI (e := VT.is d) (f := walkM most d) (fun t x hx o => walkM_len most d t x o hx) (ts := T.of.take k) (xs := v.of.take k) (o := out) (allZip_take hall k)
      refine pblock ?_
      (refine gor hL ?_; (repeat (clear hL; intro t hL; refine gor hL ?_))); (with_reducible refine po_allocL hL rfl ?_); clear hL; intro p8 t hL
      refine gor hL ?_; (repeat (clear hL; intro t hL; refine gor hL ?_))
      have hi := ih y x _ a (allZip_get hall k y x hy hx) hyf (hv.part hxm) (show (foldZ (walkM most d) (T.of.take k) (v.of.take k) out).length + x.count < 2 ^ 40 by omega)
      rw [KT.av_eq, VT.av_eq] at hi
      refine po_callvK hL hi ?_
      clear hL; intro a' t hL
      refine gor hL ?_; (repeat (clear hL; intro t hL; refine gor hL ?_))
      refine ⟨⟨a', ?_⟩, tr2⟩
      rw [foldZ_take _ _ _ _ k y x hy hx]
      exact hL.pk
  have n6 : ¬ T.kind = 6 := by simpa using h6
  rw [if_neg n6] at hQ
  refine gor hL ?_; (repeat (clear hL; intro t hL; refine gor hL ?_))
  refine pcond_b rfl (fun h8 => ?_) (fun h8 => ?_)
  · have h8' : T.kind = 8 := by simpa using h8
    rw [if_pos h8'] at hQ
    obtain ⟨⟨hn1, hn2, hn3⟩, hix⟩ := is_8 h8' his
    obtain ⟨k, hk⟩ : ∃ k : Nat, v.n = k := ⟨v.n.toNat, by omega⟩
    obtain ⟨y, hy, hym⟩ := elem_at (l := T.of) (k := k) (by omega)
    obtain ⟨x, hx, hxm⟩ := elem_at (l := v.of) (k := 0) (by omega)
    have hg : T.of.getD v.n.toNat (.mk 0 0 [] []) = y := by rw [hk, Int.toNat_natCast, List.getD_eq_getElem?_getD, hy]; rfl
    have hg' : v.of.getD 0 VT.zero = x := by rw [List.getD_eq_getElem?_getD, hx]; rfl
    rw [hg, hg'] at hQ hix
    have hyf := ((KT.fit_eq T).1 hT).2.2 _ hym
    have hxc := VT.count_part hxm
    refine gor hL ?_; (repeat (clear hL; intro t hL; refine gor hL ?_))
    refine po_appA hL (rowsI_len out) ?_ ?_; (· simp; omega); clear hL; intro v1 t f1 hL; obtain ⟨f1_r, f1_w, f1_w1, f1_c, f1_s, f1_d⟩ := id f1
    rw [rowsI_app] at hL
    refine gor hL ?_; (repeat (clear hL; intro t hL; refine gor hL ?_))
    rw [hk] at hL hQ
    refine gnm ?_; rw [hk]
    refine gor hL ?_; (repeat (clear hL; intro t hL; refine gor hL ?_))
    have hi := ih y x (out ++ [(k : Int)]) v1 hix hyf (hv.part hxm) (by simp; omega)
    rw [KT.av_eq, VT.av_eq] at hi
    refine po_callvK hL hi ?_
    clear hL; intro a' t hL
    refine gor hL ?_; (repeat (clear hL; intro t hL; refine gor hL ?_))
    rw [← hQ]
    exact pfinK a' rfl (.inl rfl) hL
  have n8 : ¬ T.kind = 8 := by simpa using h8
  rw [if_neg n8] at hQ
  refine gor hL ?_; (repeat (clear hL; intro t hL; refine gor hL ?_))
  refine po_appA hL (rowsI_len out) ?_ ?_; (· simp; omega); clear hL; intro v1 t f1 hL; obtain ⟨f1_r, f1_w, f1_w1, f1_c, f1_s, f1_d⟩ := id f1
  rw [rowsI_app] at hL
  refine gor hL ?_; (repeat (clear hL; intro t hL; refine gor hL ?_))
  rw [← hQ]
  exact pfinK v1 rfl (.inl rfl) hL

theorem C16 (most : Int) (T : KT) (v : VT) (hT : T.fit) (hv : v.fit) (hc : VT.is 20 T v = true → v.count < 2 ^ 40) : Pure (PCalls Try.prog GG) 16 [T.av, v.av, .d (.int .i64 most)] (.d (i64s (flatM most T v))) := by
  have hC := C27 T v hT hv
  have hW := fun pq pm pw h h1 => walkC most pq pm pw h 20 T v [] (.full []) h1 hT hv (by simpa using hc h1)
  simp only [KT.av_eq, VT.av_eq, wF, capW] at hC hW ⊢
  intro st; refine pcalls_of k16 e16 (of_decide_eq_true rfl) ?_; dsimp only [c16]; refine pstartL ?_; intro t hL; generalize hQ : pfin _ _ = Q
  (refine gor hL ?_; (repeat (clear hL; intro t hL; refine gor hL ?_))); refine po_boxA hL ?_; clear hL; intro p3 t hL
  (refine gor hL ?_; (repeat (clear hL; intro t hL; refine gor hL ?_))); refine po_boxA hL ?_; clear hL; intro p4 t hL
  (refine gor hL ?_; (repeat (clear hL; intro t hL; refine gor hL ?_))); refine po_boxA hL ?_; clear hL; intro p5 t hL
  (refine gor hL ?_; (repeat (clear hL; intro t hL; refine gor hL ?_))); (with_reducible refine po_allocL hL rfl ?_); clear hL; intro p7 t hL
  refine gor hL ?_; (repeat (clear hL; intro t hL; refine gor hL ?_))
  (refine gor hL ?_; (repeat (clear hL; intro t hL; refine gor hL ?_))); (with_reducible refine po_allocL hL rfl ?_); clear hL; intro p8 t hL
  refine gor hL ?_; (repeat (clear hL; intro t hL; refine gor hL ?_))
  refine pjoin (fun s u => ∃ a l, VF a (rowsI l) ∧ l = (if VT.is 20 T v = true then walkM most 20 T v [] else []) ∧ s = put (put (fun _ => .undef) (some 7) (ptrAt p7)) (some 5) (ptrAt p5) ∧ Lay st [.box p7 [a], .box p5 [.d (.int .i64 most)]] u) ?_ ?_
  · refine gor hL ?_; (repeat (clear hL; intro t hL; refine gor hL ?_))
    refine po_c0 (hC) ?_
    refine gor hL ?_; (repeat (clear hL; intro t hL; refine gor hL ?_))
    refine pcond_b rfl (fun h => ?_) (fun h => ?_)
    · have h' : VT.is 20 T v = true := by
        unfold VT.checkE at h
        split at h
        · assumption
        · simp at h
      refine gor hL ?_; (repeat (clear hL; intro t hL; refine gor hL ?_))
      have hnd : [p7, p5, p8].Nodup := by
        have h1 := hL.apart
        simp [Item.blk] at h1
        simp
        omega
      replace hL := hL.full [] 1
      refine po_callvK hL (hW p7 p5 p8 hnd h') ?_
      clear hL; intro a t hL
      have fa := hL.vk a
      refine gor hL ?_; (repeat (clear hL; intro t hL; refine gor hL ?_))
      refine ⟨a, _, fa, by rw [if_pos h'], tr2, hL.pk⟩
    · have h' : ¬ VT.is 20 T v = true := by
        unfold VT.checkE at h
        split at h
        · simp at h
        · assumption
      refine gor hL ?_; (repeat (clear hL; intro t hL; refine gor hL ?_))
      exact ⟨_, [], .full [], by rw [if_neg h'], tr2, hL.pk⟩
  rintro s t ⟨a, l, fa, hl, rfl, hL⟩
  obtain ⟨fa_r, fa_w, fa_w1, fa_c, fa_s, fa_d⟩ := id fa
  refine gor hL ?_; (repeat (clear hL; intro t hL; refine gor hL ?_))
  have e1 : (if False then if (if True then if (0 : Int) > most then 0 else most else if 0 < most then 0 else most) > (l.length : Int) then if True then if (0 : Int) > most then 0 else most else if 0 < most then 0 else most else (l.length : Int) else if (if True then if (0 : Int) > most then 0 else most else if 0 < most then 0 else most) < (l.length : Int) then if True then if (0 : Int) > most then 0 else most else if 0 < most then 0 else most else (l.length : Int)) = ((min l.length (max most 0).toNat : Nat) : Int) := by
    simp only [if_true, if_false]
    repeat' split
    all_goals omega
  refine gnm ?_; rw [e1]
  refine po rfl (slc_rowsV fa rfl rfl (by rw [List.length_map]; omega)) ?_
  refine gor hL ?_; (repeat (clear hL; intro t hL; refine gor hL ?_))
  rw [← hQ]
  have hfm : flatM most T v = l.take (min l.length (max most 0).toNat) := by
    rw [flatM, hl]
    split
    · rw [Nat.min_comm, ← List.take_take, List.take_length]
    · simp
  rw [hfm]
  refine pfin_weak (u := _) rfl ?_ hL.le
  show AV.weak (if _ then _ else _) = _
  rw [i64s, List.map_take]
  split
  · rename_i e
    rw [fa_w, e, List.take_length]
  · rfl
end Go.Pv
