/- Functions of the program, by value. No condition. -/
import Derived.Test.YtidelhpljjjjmaaW3
import Derived.Test.YtidelhpljjjjmaaV8
import Derived.Test.YtidelhpljjjjmaaE1
namespace Go.Pv
open Go.Proofs
set_option maxRecDepth 100000
set_option maxHeartbeats 8000000

/-- prompter/prompterlaw09.CourierApart -/
abbrev c8_2 : PCode :=
 (.seq (.region [⟨(.some 6), (.mov (.c (.d (.bool .false)))), .none⟩])
 .ret)
abbrev c8_1 : PCode :=
 (.cond (.t 15)
  c8_2
  .skip)
abbrev c8_5 : PCode :=
 (.seq (.region [⟨(.some 6), (.mov (.c (.d (.bool .true)))), .none⟩])
 .ret)
abbrev c8_4 : PCode :=
 (.cond (.t 28)
  c8_5
  .skip)
abbrev c8_12 : PCode :=
 (.seq (.region [⟨(.some 55), (.mov (.t 11)), .none⟩,
   ⟨(.some 56), (.bin .eql (.t 55) (.c (.d (.int .i64 0)))), .none⟩,
   ⟨(.some 57), (.mov (.t 56)), .none⟩,
   ⟨(.some 58), (.mov (.t 11)), (.some (57, .false))⟩,
   ⟨(.some 59), (.bin .eql (.t 58) (.c (.d (.int .i64 6)))), (.some (57, .false))⟩,
   ⟨(.some 60), (.pick (.t 57) (.c (.d (.bool .true))) (.t 59)), .none⟩,
   ⟨(.some 6), (.mov (.t 60)), .none⟩])
 .ret)
abbrev c8_11 : PCode :=
 (.cond (.t 54)
  c8_12
  .skip)
abbrev c8_13 : PCode :=
 (.keep [8, 9, 10, 12] (.seq (.region [⟨(.some 61), (.mov (.t 10)), .none⟩,
   ⟨(.some 62), (.strOf (.t 61)), .none⟩,
   ⟨(.some 63), (.mov (.t 12)), .none⟩,
   ⟨(.some 64), (.strOf (.t 63)), .none⟩,
   ⟨(.some 65), (.bin .eql (.t 62) (.t 64)), .none⟩,
   ⟨(.some 66), (.load .true 4 (.t 8) .false), .none⟩,
   ⟨(.some 67), (.load .true 4 (.t 9) .false), .none⟩,
   ⟨(.some 68), (.call0 18 [(.t 66), (.t 67)]), .none⟩,
   ⟨(.some 69), (.eqB .false (.t 65) (.t 68)), .none⟩,
   ⟨(.some 70), (.mov (.t 69)), .none⟩,
   ⟨(.some 71), (.mov (.t 10)), (.some (70, .true))⟩,
   ⟨(.some 72), (.len (.t 71)), (.some (70, .true))⟩,
   ⟨(.some 73), (.bin .rem (.t 72) (.c (.d (.int .i64 2)))), (.some (70, .true))⟩,
   ⟨(.some 74), (.bin .eql (.t 73) (.c (.d (.int .i64 0)))), (.some (70, .true))⟩,
   ⟨(.some 75), (.pick (.t 70) (.t 74) (.c (.d (.bool .false)))), .none⟩,
   ⟨(.some 6), (.mov (.t 75)), .none⟩])
 .ret))
abbrev c8_10 : PCode :=
 (.keep [8, 9, 10, 11, 12, 13] (.seq (.seq (.region [⟨(.some 49), (.mov (.t 11)), .none⟩,
   ⟨(.some 50), (.bin .neq (.t 49) (.c (.d (.int .i64 0)))), .none⟩,
   ⟨(.some 51), (.mov (.t 50)), .none⟩,
   ⟨(.some 52), (.mov (.t 13)), (.some (51, .false))⟩,
   ⟨(.some 53), (.bin .neq (.t 52) (.c (.d (.int .i64 0)))), (.some (51, .false))⟩,
   ⟨(.some 54), (.pick (.t 51) (.c (.d (.bool .true))) (.t 53)), .none⟩])
 c8_11)
 c8_13))
abbrev c8_9 : PCode :=
 (.keep [7, 8, 9, 10, 11] (.seq (.region [⟨(.some 44), (.load .true 4 (.t 7) .false), .none⟩,
   ⟨(.some 45), (.load .true 4 (.t 9) .false), .none⟩,
   ⟨(.some 46), (.call0 29 [(.t 44), (.t 45)]), .none⟩,
   ⟨(.some 43), (.mov (.t 46)), .none⟩,
   ⟨(.some 47), (.ext (.t 43) 0), .none⟩,
   ⟨(.some 48), (.ext (.t 43) 1), .none⟩,
   ⟨(.some 12), (.mov (.t 47)), .none⟩,
   ⟨(.some 13), (.mov (.t 48)), .none⟩])
 c8_10))
abbrev c8_8 : PCode :=
 (.keep [7, 8, 9] (.seq (.region [⟨(.some 38), (.load .true 4 (.t 7) .false), .none⟩,
   ⟨(.some 39), (.load .true 4 (.t 8) .false), .none⟩,
   ⟨(.some 40), (.call0 29 [(.t 38), (.t 39)]), .none⟩,
   ⟨(.some 37), (.mov (.t 40)), .none⟩,
   ⟨(.some 41), (.ext (.t 37) 0), .none⟩,
   ⟨(.some 42), (.ext (.t 37) 1), .none⟩,
   ⟨(.some 10), (.mov (.t 41)), .none⟩,
   ⟨(.some 11), (.mov (.t 42)), .none⟩])
 c8_9))
abbrev c8_7 : PCode :=
 (.keep [1, 2, 7] (.seq (.region [⟨(.some 31), (.load .true 4 (.t 7) .false), .none⟩,
   ⟨(.some 32), (.mov (.t 1)), .none⟩,
   ⟨(.some 33), (.callp 14 [(.t 31), (.t 32)]), .none⟩,
   ⟨(.some 34), (.load .true 4 (.t 7) .false), .none⟩,
   ⟨(.some 35), (.mov (.t 2)), .none⟩,
   ⟨(.some 36), (.callp 14 [(.t 34), (.t 35)]), .none⟩,
   ⟨(.some 8), (.alloc [(.d (.int .i64 0)), (.d (.flt .f64 0)), (.d (.str (bs []))), (.full [])]), .none⟩,
   ⟨(.some 9), (.alloc [(.d (.int .i64 0)), (.d (.flt .f64 0)), (.d (.str (bs []))), (.full [])]), .none⟩,
   ⟨.none, (.store 4 (.t 8) (.t 33)), .none⟩,
   ⟨.none, (.store 4 (.t 9) (.t 36)), .none⟩])
 c8_8))
abbrev c8_6 : PCode :=
 (.keep [1, 2, 3] (.seq (.region [⟨(.some 29), (.load .true 3 (.t 3) .false), .none⟩,
   ⟨(.some 30), (.call0 15 [(.t 29)]), .none⟩,
   ⟨(.some 7), (.alloc [(.d (.int .u8 0)), (.d (.int .i64 0)), (.full []), (.full [])]), .none⟩,
   ⟨.none, (.store 4 (.t 7) (.t 30)), .none⟩])
 c8_7))
abbrev c8_3 : PCode :=
 (.keep [1, 2, 3] (.seq (.seq (.region [⟨(.some 16), (.load .true 3 (.t 3) .false), .none⟩,
   ⟨(.some 17), (.call0 13 [(.t 16), (.c (.d (.int .i64 4)))]), .none⟩,
   ⟨(.some 18), (.not (.t 17)), .none⟩,
   ⟨(.some 19), (.mov (.t 18)), .none⟩,
   ⟨(.some 20), (.mov (.t 1)), (.some (19, .false))⟩,
   ⟨(.some 21), (.len (.t 20)), (.some (19, .false))⟩,
   ⟨(.some 22), (.bin .gtr (.t 21) (.c (.d (.int .i64 40)))), (.some (19, .false))⟩,
   ⟨(.some 23), (.pick (.t 19) (.c (.d (.bool .true))) (.t 22)), .none⟩,
   ⟨(.some 24), (.mov (.t 23)), .none⟩,
   ⟨(.some 25), (.mov (.t 2)), (.some (24, .false))⟩,
   ⟨(.some 26), (.len (.t 25)), (.some (24, .false))⟩,
   ⟨(.some 27), (.bin .gtr (.t 26) (.c (.d (.int .i64 40)))), (.some (24, .false))⟩,
   ⟨(.some 28), (.pick (.t 24) (.c (.d (.bool .true))) (.t 27)), .none⟩])
 c8_4)
 c8_6))
abbrev c8_0 : PCode :=
 (.seq (.seq (.region [⟨(.some 14), (.call0 28 []), .none⟩,
   ⟨(.some 15), (.not (.t 14)), .none⟩])
 c8_1)
 c8_3)
def c8 : PFun := ⟨
 (.seq (.region [⟨(.some 3), (.box 3 (.t 0)), .none⟩,
   ⟨(.some 6), (.mov (.c (.d (.bool .false)))), .none⟩])
 c8_0),
 3, 76, [(.tmp 6)]⟩

theorem e8 : entered Try.prog 8 = true := by kernel_rfl
theorem k8 : compFun Try.prog (fun i => if i = 6 then 1 else 0) 8 = some c8.er := by kernel_rfl


theorem flat_few : ∀ {xs : List VT} {f : Nat → List Int} (_ : ∀ i (h : i < xs.length), (f i).length ≤ 64 * xs[i].count), ((List.range xs.length).flatMap f).length ≤ 64 * (xs.map VT.count).sum
  | [], f, _ => by simp
  | x :: xs, f, h => by
    have h0 := h 0 (by simp)
    have h1 := flat_few (xs := xs) (f := fun i => f (i + 1)) fun i hi => h (i + 1) (by simpa using hi)
    rw [List.length_cons, List.range_succ_eq_map, List.flatMap_cons, List.flatMap_map, List.length_append, List.map_cons, List.sum_cons]
    simp only [List.getElem_cons_zero] at h0
    have h2 : ((List.range xs.length).flatMap fun a => f (a.succ)).length ≤ 64 * (xs.map VT.count).sum := h1
    omega
theorem putR_few {e : Nat} {T : KT} (hW : WT e T) : ∀ {v : VT}, VT.is e T v = true → (putR e T v).length ≤ 64 * v.count := by
  induction hW with
  | base e k hk =>
    intro v his
    have hc := VT.count_eq v
    have : k = 0 ∨ k = 1 ∨ k = 2 ∨ k = 3 := by omega
    rcases this with rfl | rfl | rfl | rfl
    · rw [is0] at his; simp only [pvq] at his
      rw [put0 _ _ _ _ _ (by decide) (by omega), wordB_len]; omega
    · rw [is1] at his; simp only [pvq] at his
      rw [put0 _ _ _ _ _ (by decide) (by omega), wordB_len]; omega
    · show (longB _).length ≤ _
      rw [longB_len]; omega
    · show (quadB _).length ≤ _
      rw [quadB_len]; omega
  | text e m hm =>
    intro v his
    have hc := VT.count_eq v
    rw [is4] at his; simp only [pvq] at his
    show (textB _).length ≤ _
    unfold textB
    rw [List.length_append, List.length_append, strB_len, wordB_len]
    split <;> simp <;> omega
  | enum e n hl hf =>
    intro v his
    have hc := VT.count_eq v
    rw [is7] at his; simp only [pvq] at his
    rw [put0 _ _ _ _ _ (by decide) (by omega), wordB_len]; omega
  | seq e m o hm ho ih =>
    intro v his
    have hc := VT.count_eq v
    rw [is5] at his; simp only [pvq] at his
    have hall := List.all_eq_true.1 his.2
    rw [put5, List.length_append, wordB_len]
    have := flat_few (f := fun i => putR e o (v.of.getD i VT.zero)) (xs := v.of) fun i hi => by
      have e1 : v.of.getD i VT.zero = v.of[i] := by rw [List.getD_eq_getElem?_getD, List.getElem?_eq_getElem hi]; rfl
      rw [e1]
      exact ih (hall _ (List.getElem_mem hi))
    omega
  | reco e k n o hk hl hn hf ho ih =>
    intro v his
    have hc := VT.count_eq v
    rcases hk with rfl | rfl
    · rw [is6] at his; simp only [pvq] at his
      rw [put6, List.length_append, List.length_nil]
      have := flat_few (f := fun i => putR e (o.getD i (.mk 0 0 [] [])) (v.of.getD i VT.zero)) (xs := v.of) fun i hi => by
        have hio : i < o.length := by omega
        have e1 : v.of.getD i VT.zero = v.of[i] := by rw [List.getD_eq_getElem?_getD, List.getElem?_eq_getElem hi]; rfl
        have e3 : o.getD i (.mk 0 0 [] []) = o[i] := by rw [List.getD_eq_getElem?_getD, List.getElem?_eq_getElem hio]; rfl
        rw [e1, e3]
        exact ih _ (List.getElem_mem hio) (allZip_get his.2 i _ _ (List.getElem?_eq_getElem hio) (List.getElem?_eq_getElem hi))
      omega
    · rw [is8] at his; simp only [pvq] at his
      have hj : v.n.toNat < o.length := by omega
      have e3 : o.getD v.n.toNat (.mk 0 0 [] []) = o[v.n.toNat] := by rw [List.getD_eq_getElem?_getD, List.getElem?_eq_getElem hj]; rfl
      rw [put8, List.length_append, wordB_len]
      have := flat_few (f := fun i => putR e (o.getD v.n.toNat (.mk 0 0 [] [])) (v.of.getD i VT.zero)) (xs := v.of) fun i hi => by
        have e1 : v.of.getD i VT.zero = v.of[i] := by rw [List.getD_eq_getElem?_getD, List.getElem?_eq_getElem hi]; rfl
        have e0 : v.of.getD 0 VT.zero = v.of[i] := by
          have : i = 0 := by omega
          subst this; exact e1
        have h2 := his.2
        rw [e3, e0] at h2
        rw [e1, e3]
        exact ih _ (List.getElem_mem hj) h2
      omega
/-- What is known of a built value's bytes. -/
theorem putV {l : List Int} {e : Nat} {T : KT} (hW : WT e T) (he : e ≤ 20) (hf : (buildV l T).fit) (_his : VT.is e T (buildV l T) = true) (hc : (buildV l T).count < 2 ^ 30) : Pure (PCalls Try.prog GG) 29 [T.av, (buildV l T).av] (.tup [.d (.sl (rowsB (putE e T (buildV l T)))), .d (.int .i64 (putN e T (buildV l T)))]) :=
  C29 hW he _ hf fun h => by have := putR_few hW h; omega
theorem putN_small {e : Nat} {T : KT} {v : VT} (hi : VT.is e T v = true) (h : (putR e T v).length ≤ 4000) : putE e T v = putR e T v ∧ putN e T v = 0 := by
  rw [putE, putN, if_pos ⟨hi, h⟩, if_pos hi, if_pos h]; exact ⟨rfl, rfl⟩
theorem putN_great {e : Nat} {T : KT} {v : VT} (hi : VT.is e T v = true) (h : ¬ (putR e T v).length ≤ 4000) : putE e T v = [] ∧ putN e T v = 6 := by
  rw [putE, putN, if_neg (fun hh => h hh.2), if_pos hi, if_neg h]; exact ⟨rfl, rfl⟩
theorem C8 (x : Nd) (hx : x.fit) (l : List Int) (hr : ∀ x ∈ l, -9223372036854775808 ≤ x ∧ x ≤ 9223372036854775807) (l' : List Int) (hr' : ∀ x ∈ l', -9223372036854775808 ≤ x ∧ x ≤ 9223372036854775807) :
    Pure (PCalls Try.prog GG) 8 [x.av, .d (i64s l), .d (i64s l')] (b2 true) := by
  intro st; refine pcalls_of k8 e8 (of_decide_eq_true rfl) ?_; dsimp only [c8]; refine pstartL ?_; intro t hL; generalize hQ : pfin _ _ = Q
  (refine gor hL ?_; (repeat (clear hL; intro t hL; refine gor hL ?_))); refine po_boxA hL ?_; clear hL; intro p3 t hL
  refine gor hL ?_; (repeat (clear hL; intro t hL; refine gor hL ?_))
  refine po_c0 (putAwake) ?_
  refine gor hL ?_; (repeat (clear hL; intro t hL; refine gor hL ?_))
  refine po_c0 (C13 x 4 hx (by decide)) ?_
  refine gor hL ?_; (repeat (clear hL; intro t hL; refine gor hL ?_))
  refine pcond_b rfl (fun hq => ?_) (fun hq => ?_)
  · refine gor hL ?_; (repeat (clear hL; intro t hL; refine gor hL ?_))
    rw [← hQ]
    exact pfin_pure rfl hL.le
  simp only [Bool.or_eq_false_iff, decide_eq_false_iff_not] at hq
  have hl : l.length < 2 ^ 40 := by omega
  have hl' : l'.length < 2 ^ 40 := by omega
  obtain ⟨t1, t2, t3⟩ := typ_le hx
  have hW : WT 4 (Nd.typ 4 x []) := .of_typ (by decide) hx
  have hcs : cost 20 (Nd.typ 4 x []) < 2 ^ 30 := Nat.lt_of_le_of_lt (hW.cost 20) (by decide)
  have hT := C15 x hx
  generalize Nd.typ 4 x [] = T at *
  have hV := C14 l hl hr T t1 t2 t3
  have hV' := C14 l' hl' hr' T t1 t2 t3
  have hvf : (buildV l T).fit := (buildM_few hr hW 20 0 0).fit (by decide)
  have hvf' : (buildV l' T).fit := (buildM_few hr' hW 20 0 0).fit (by decide)
  have his : VT.is 4 T (buildV l T) = true := by rw [← is_deep hW 20 _ (by decide)]; exact buildV_is hr (by decide) hW
  have his' : VT.is 4 T (buildV l' T) = true := by rw [← is_deep hW 20 _ (by decide)]; exact buildV_is hr' (by decide) hW
  have hP := putV hW (by decide) hvf his (buildV_count l hcs)
  have hP' := putV hW (by decide) hvf' his' (buildV_count l' hcs)
  generalize buildV l T = V at *
  generalize buildV l' T = V' at *
  have hSm := C18 V V' hvf
  have hkey : (putR 4 T V == putR 4 T V') = VT.same V V' := by
    rw [Bool.eq_iff_iff, beq_iff_eq]
    refine ⟨fun h => (putR_inj hW hvf hvf' his his' (r := []) (s := []) (by rw [h])).1, fun h => putR_same 4 T h⟩
  have hev := putR_even 4 T V
  have hb := putR_bytes 4 T V
  have hb' := putR_bytes 4 T V'
  simp only [VT.av_eq, KT.av_eq] at hT hV hV' hP hP' hSm
  refine gor hL ?_; (repeat (clear hL; intro t hL; refine gor hL ?_))
  refine po_c0 (hT) ?_
  refine gor hL ?_; (repeat (clear hL; intro t hL; refine gor hL ?_))
  (refine gor hL ?_; (repeat (clear hL; intro t hL; refine gor hL ?_))); (with_reducible refine po_allocL hL rfl ?_); clear hL; intro p7 t hL
  refine gor hL ?_; (repeat (clear hL; intro t hL; refine gor hL ?_))
  refine po_cp (hV) ?_
  refine gor hL ?_; (repeat (clear hL; intro t hL; refine gor hL ?_))
  refine po_cp (hV') ?_
  refine gor hL ?_; (repeat (clear hL; intro t hL; refine gor hL ?_))
  (refine gor hL ?_; (repeat (clear hL; intro t hL; refine gor hL ?_))); (with_reducible refine po_allocL hL rfl ?_); clear hL; intro p8 t hL
  refine gor hL ?_; (repeat (clear hL; intro t hL; refine gor hL ?_))
  (refine gor hL ?_; (repeat (clear hL; intro t hL; refine gor hL ?_))); (with_reducible refine po_allocL hL rfl ?_); clear hL; intro p9 t hL
  refine gor hL ?_; (repeat (clear hL; intro t hL; refine gor hL ?_))
  refine po_c0 (hP) ?_
  refine gor hL ?_; (repeat (clear hL; intro t hL; refine gor hL ?_))
  refine po_c0 (hP') ?_
  refine gor hL ?_; (repeat (clear hL; intro t hL; refine gor hL ?_))
  by_cases h1 : (putR 4 T V).length ≤ 4000
  · obtain ⟨a1, a2⟩ := putN_small his h1
    rw [a1, a2]
    by_cases h2 : (putR 4 T V').length ≤ 4000
    · obtain ⟨g1, g2⟩ := putN_small his' h2
      rw [g1, g2]
      refine gor hL ?_; (repeat (clear hL; intro t hL; refine gor hL ?_))
      refine po rfl (ev_strOf rfl) ?_
      refine gor hL ?_; (repeat (clear hL; intro t hL; refine gor hL ?_))
      refine po rfl (ev_strOf rfl) ?_
      refine gor hL ?_; (repeat (clear hL; intro t hL; refine gor hL ?_))
      refine gnm ?_; rw [strOfL_eq hb hb', hkey]
      refine gor hL ?_; (repeat (clear hL; intro t hL; refine gor hL ?_))
      refine po_c0 (hSm) ?_
      refine gor hL ?_; (repeat (clear hL; intro t hL; refine gor hL ?_))
      refine gnm ?_; rw [beq_self_eq_true (VT.same V V')]
      refine gor hL ?_; (repeat (clear hL; intro t hL; refine gor hL ?_))
      rw [← hQ]
      refine pfin_pure (congrArg (fun z => some (b2 z)) ?_) hL.le
      have e : ((((putR 4 T V).length : Int).tmod 2) == 0) = true := by
        rw [IntWalk.rem_in _ _ (by omega), beq_iff_eq]; omega
      simp [e]
    · obtain ⟨g1, g2⟩ := putN_great his' h2
      rw [g1, g2]
      refine gor hL ?_; (repeat (clear hL; intro t hL; refine gor hL ?_))
      rw [← hQ]
      exact pfin_pure rfl hL.le
  · obtain ⟨a1, a2⟩ := putN_great his h1
    rw [a1, a2]
    refine gor hL ?_; (repeat (clear hL; intro t hL; refine gor hL ?_))
    rw [← hQ]
    exact pfin_pure rfl hL.le
end Go.Pv
