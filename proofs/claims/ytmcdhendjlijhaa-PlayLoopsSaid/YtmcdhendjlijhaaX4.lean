/- A body that raises where an argument isn't 0; one that divides by it: plain. No condition. -/
import Derived.Test.YtmcdhendjlijhaaV23
import Derived.Test.YtmcdhendjlijhaaE1
namespace Go.Pv
set_option maxRecDepth 100000

def progR (k : Int) : List Ins := [⟨10, 0, 8, 0, k⟩, ⟨1, 1, 0, 0, 7⟩]
def progD : List Ins := [⟨6, 2, 3, 8, 0⟩]
theorem progR_fit {k : Int} (hk : 0 ≤ k ∧ k ≤ 255) : ∀ x ∈ progR k, x.fit := by
  intro x hx
  simp only [progR, List.mem_cons, List.not_mem_nil, or_false] at hx
  rcases hx with rfl | rfl
  · exact ⟨by dsimp only; omega, by dsimp only; omega, by dsimp only; omega, by dsimp only; omega, by dsimp only; omega⟩
  · exact ⟨by decide, by decide, by decide, by decide, by decide⟩
theorem progD_fit : ∀ x ∈ progD, x.fit := by
  intro x hx
  simp only [progD, List.mem_cons, List.not_mem_nil, or_false] at hx
  subst hx
  exact ⟨by decide, by decide, by decide, by decide, by decide⟩
theorem progR_ok {k : Int} (hk : 0 ≤ k ∧ k ≤ 255) : checkP (progR k) = 0 := by
  refine checkP_of (show 2 ≤ 24 by decide) (show ((2 : Nat) : Int) + (0 + (0 + 0)) ≤ 200 by decide) fun i x hx => chk1_zero.2 ?_
  match i, hx with
  | 0, hx =>
    simp only [progR, List.getElem?_cons_zero, Option.some.injEq] at hx
    subst hx
    exact ⟨by dsimp only; omega, by dsimp only; omega, by dsimp only; omega, fun _ => (by dsimp only; omega), fun h => absurd h (by dsimp only; omega), fun h => absurd h (by dsimp only; omega), fun _ => hk.1⟩
  | 1, hx =>
    simp only [progR, List.getElem?_cons_succ, List.getElem?_cons_zero, Option.some.injEq] at hx
    subst hx
    exact ⟨by dsimp only; omega, by dsimp only; omega, by dsimp only; omega, fun _ => (by dsimp only; omega), fun h => absurd h (by dsimp only; omega), fun h => absurd h (by dsimp only; omega), fun h => absurd h (by dsimp only; omega)⟩
  | i + 2, hx => simp [progR] at hx
theorem progD_ok : checkP progD = 0 := by kernel_rfl

abbrev crdT : KT := .mk 1 0 [] []
abbrev noT : KT := .mk 0 0 [] []
abbrev numV (x : Int) : VT := .mk x 0 (bs []) []
theorem is_card (x : Int) : VT.is 20 crdT (numV x) = (decide (x ≥ 0) && decide (x ≤ 65535)) := by
  have hp : VT.plain (numV x) = true := by kernel_rfl
  rw [VT.is]
  show (if (1 : Int) = 0 then _ else if (1 : Int) = 1 then (VT.plain (numV x) && decide (x ≥ 0) && decide (x ≤ 65535)) else _) = _
  rw [if_neg (by decide), if_pos rfl, hp, Bool.true_and]
theorem checkE_card (x : Int) : VT.checkE crdT (numV x) = if 0 ≤ x ∧ x ≤ 65535 then 0 else 17 := by
  rw [VT.checkE, is_card]
  by_cases h : 0 ≤ x ∧ x ≤ 65535
  · rw [if_pos h, if_pos (by simp; omega)]
  · rw [if_neg h, if_neg (by simp; omega)]
theorem flat_card {x : Int} (h : 0 ≤ x ∧ x ≤ 65535) : flatM 64 crdT (numV x) = [x] := by
  rw [flatM, if_pos (by rw [is_card]; simp; omega)]
  show (walkM 64 20 crdT (numV x) []).take 64 = [x]
  rw [walkM]
  rfl
theorem build_no {R : List Int} (h : Rok R) : VT.checkE noT (buildV R noT) = 0 := by
  rw [VT.checkE, if_pos (buildV_is h (show 1 ≤ 20 by decide) (WT.base 0 0 (by decide)))]
theorem numV_fit {x : Int} (h : -9223372036854775808 ≤ x ∧ x ≤ 9223372036854775807) : (numV x).fit := .mk h (by decide) (by decide) (by decide) (fun _ h => by cases h)

section
variable (s0 s1 s2 s3 s4 s5 s6 s7 : Int)
theorem go_R0 (k : Int) : go (progR k) [0] 3 0 2 (reg0 [s0, s1, s2, s3, s4, s5, s6, s7] [0]) = .done true [s0, 7, s2, s3, s4, s5, s6, s7, 0, 0, 0, 0, 0, 0, 0, 0] := by
  kernel_rfl
theorem go_R (k x : Int) (hx : x ≠ 0) : go (progR k) [x] 3 0 2 (reg0 [s0, s1, s2, s3, s4, s5, s6, s7] [x]) = .fail 16 k :=
  go_raise (x := ⟨10, 0, 8, 0, k⟩) (by decide) rfl ⟨by dsimp only; omega, by dsimp only; omega⟩ rfl hx
theorem go_D0 : go progD [0] 2 0 1 (reg0 [s0, s1, s2, s3, s4, s5, s6, s7] [0]) = .fail 14 0 := by kernel_rfl
theorem go_D (x : Int) (hx : x ≠ 0) : go progD [x] 2 0 1 (reg0 [s0, s1, s2, s3, s4, s5, s6, s7] [x]) = .done true [s0, s1, w64 (s3.tdiv x), s3, s4, s5, s6, s7, x, 0, 0, 0, 0, 0, 0, 0] :=
  (go_act (x := ⟨6, 2, 3, 8, 0⟩) (R := reg0 [s0, s1, s2, s3, s4, s5, s6, s7] [x]) (by decide) rfl ⟨by decide, by decide⟩ (by decide) (fun _ => hx) (fun h => absurd h (by decide)) (by decide) (fun h => absurd h (by decide))).trans rfl

theorem playF_bad {tk an : KT} {p : List Ins} {S : List Int} {v : VT} (h1 : checkP p = 0) (h2 : VT.checkE tk v ≠ 0) : playF tk an p S v = (S, 17, 0, .zero) := by
  rw [playF, if_neg (by rw [h1]; decide), if_pos h2]
theorem playF_fail {tk an : KT} {p : List Ins} {S args : List Int} {v : VT} {e r : Int} (h1 : checkP p = 0) (h2 : VT.checkE tk v = 0) (h3 : flatM 64 tk v = args) (h4 : go p args (p.length + 1) 0 p.length (reg0 S args) = .fail e r) : playF tk an p S v = (S, e, r, .zero) := by
  rw [playF, if_neg (by rw [h1]; decide), if_neg (by rw [h2]; decide), h3, h4]
theorem playF_done {tk an : KT} {p : List Ins} {S args R : List Int} {v : VT} {b : Bool} (h1 : checkP p = 0) (h2 : VT.checkE tk v = 0) (h3 : flatM 64 tk v = args) (h4 : go p args (p.length + 1) 0 p.length (reg0 S args) = .done b R) (h5 : VT.checkE an (buildV (R.drop 8) an) = 0) : playF tk an p S v = (R.take 8, 0, 0, buildV (R.drop 8) an) := by
  rw [playF, if_neg (by rw [h1]; decide), if_neg (by rw [h2]; decide), h3, h4]
  simp only [h5, ne_eq, not_true, if_false]

theorem card_ok {x : Int} (hx : 0 ≤ x ∧ x ≤ 65535) : VT.checkE crdT (numV x) = 0 := by rw [checkE_card, if_pos hx]
theorem playR_out (k x : Int) (hk : 0 ≤ k ∧ k ≤ 255) (S : List Int) (hx : ¬ (0 ≤ x ∧ x ≤ 65535)) : playF crdT noT (progR k) S (numV x) = (S, 17, 0, .zero) :=
  playF_bad (progR_ok hk) (by rw [checkE_card, if_neg hx]; decide)
theorem playR_x (k x : Int) (hk : 0 ≤ k ∧ k ≤ 255) (hx : 0 ≤ x ∧ x ≤ 65535) (h0 : x ≠ 0) : playF crdT noT (progR k) [s0, s1, s2, s3, s4, s5, s6, s7] (numV x) = ([s0, s1, s2, s3, s4, s5, s6, s7], 16, k, .zero) :=
  playF_fail (progR_ok hk) (card_ok hx) (flat_card hx) (go_R _ _ _ _ _ _ _ _ k x h0)
theorem playR_0 (k : Int) (hk : 0 ≤ k ∧ k ≤ 255) : ∃ b, playF crdT noT (progR k) [s0, s1, s2, s3, s4, s5, s6, s7] (numV 0) = ([s0, 7, s2, s3, s4, s5, s6, s7], 0, 0, b) :=
  ⟨_, playF_done (progR_ok hk) (card_ok (by decide)) (flat_card (by decide)) (go_R0 _ _ _ _ _ _ _ _ k) (build_no fun x hx => by simp at hx; omega)⟩
theorem playD_out (x : Int) (S : List Int) (hx : ¬ (0 ≤ x ∧ x ≤ 65535)) : playF crdT noT progD S (numV x) = (S, 17, 0, .zero) :=
  playF_bad progD_ok (by rw [checkE_card, if_neg hx]; decide)
theorem playD_0 : playF crdT noT progD [s0, s1, s2, s3, s4, s5, s6, s7] (numV 0) = ([s0, s1, s2, s3, s4, s5, s6, s7], 14, 0, .zero) :=
  playF_fail progD_ok (card_ok (by decide)) (flat_card (by decide)) (go_D0 _ _ _ _ _ _ _ _)
theorem playD_x (x : Int) (hx : 0 ≤ x ∧ x ≤ 65535) (h0 : x ≠ 0) : ∃ b, playF crdT noT progD [s0, s1, s2, s3, s4, s5, s6, s7] (numV x) = ([s0, s1, w64 (s3.tdiv x), s3, s4, s5, s6, s7], 0, 0, b) :=
  ⟨_, playF_done progD_ok (card_ok hx) (flat_card hx) (go_D _ _ _ _ _ _ _ _ x h0) (build_no fun y hy => by simp at hy; omega)⟩
end
end Go.Pv
/- A body that does nothing: plain. No condition. -/
namespace Go.Pv
set_option maxRecDepth 100000

/-- The first eight, nought where there are none. -/
def pad8 (l : List Int) : List Int := (List.range 8).map fun i => l.getD i 0
theorem pad8_take (l : List Int) : pad8 (l.take 8) = pad8 l :=
  List.map_congr_left fun i hi => by
    have := List.mem_range.1 hi
    rw [List.getD_eq_getElem?_getD, List.getD_eq_getElem?_getD, List.getElem?_take, if_pos this]
theorem pad8_flat {e : Nat} {T : KT} (h : WT e T) (he : e ≤ 20) {v : VT} (hv : VT.is e T v = true) : pad8 (flatM 8 T v) = pad8 (flatM 64 T v) := by
  rw [flatM_eq 8 h he hv, flatM_eq 64 h he hv]
  show pad8 ((flatR e T v).take 8) = pad8 ((flatR e T v).take 64)
  rw [← pad8_take ((flatR e T v).take 64), List.take_take]
  rfl
theorem pad8_eq (l : List Int) : pad8 l = l.take 8 ++ (List.replicate 8 (0 : Int)).drop (min l.length 8) := by
  refine List.ext_getElem? fun i => ?_
  by_cases hi : i < 8
  · rw [pad8, List.getElem?_map, List.getElem?_range hi, Option.map_some, List.getD_eq_getElem?_getD]
    by_cases hl : i < l.length
    · rw [List.getElem?_append_left (by rw [List.length_take]; omega), List.getElem?_take, if_pos hi, List.getElem?_eq_getElem hl]; rfl
    · rw [List.getElem?_eq_none (by omega), List.getElem?_append_right (by rw [List.length_take]; omega), List.getElem?_drop, List.getElem?_replicate, if_pos (by rw [List.length_take]; omega)]; rfl
  · rw [List.getElem?_eq_none (by simp [pad8]; omega), List.getElem?_eq_none (by simp; omega)]
theorem pad8_cells (l : List Int) : (l.take 8).map (fun n => AV.d (.int .i64 n)) ++ [AV.d (.int .i64 0), .d (.int .i64 0), .d (.int .i64 0), .d (.int .i64 0), .d (.int .i64 0), .d (.int .i64 0), .d (.int .i64 0), .d (.int .i64 0)].drop (min l.length 8) = (pad8 l).map fun n => AV.d (.int .i64 n) := by
  rw [pad8_eq, List.map_append, List.map_drop]; rfl
theorem pad8_ok {l : List Int} (h : Rok l) : Rok (pad8 l) := fun x hx => by
  obtain ⟨i, _, rfl⟩ := List.mem_map.1 hx
  rw [List.getD_eq_getElem?_getD]
  cases e : l[i]? with
  | none => exact ⟨by decide, by decide⟩
  | some y => exact h y (List.mem_of_getElem? e)
theorem play_none {T A : KT} {e : Nat} (hT : WT e T) (hA : WT e A) (he : 1 ≤ e ∧ e ≤ 20) {S : List Int} (hS : S.length = 8) {l : List Int} (hl : Rok l) :
    playF T A [] S (buildV l T) = (S, 0, 0, buildV (pad8 (flatM 64 T (buildV l T))) A) := by
  have hv := buildV_is hl he.2 hT
  have hvf := buildV_fit hl hT.fit
  have hargs : Rok (flatM 64 T (buildV l T)) := flatM_ok hvf rfl
  have hc : checkP [] = 0 := by decide
  have h1 : VT.checkE T (buildV l T) = 0 := by rw [VT.checkE, if_pos hv]
  have hd : (reg0 S (flatM 64 T (buildV l T))).drop 8 = pad8 (flatM 64 T (buildV l T)) := by
    rw [reg0, List.drop_left' hS]; rfl
  have ht : (reg0 S (flatM 64 T (buildV l T))).take 8 = S := by
    rw [reg0, List.take_left' hS]
  have h5 : VT.checkE A (buildV ((reg0 S (flatM 64 T (buildV l T))).drop 8) A) = 0 := by
    rw [hd, VT.checkE, if_pos (buildV_is (pad8_ok hargs) he.2 hA)]
  have := playF_done hc h1 rfl (R := reg0 S (flatM 64 T (buildV l T))) (b := true) (by rfl) h5
  rw [hd, ht] at this
  exact this
end Go.Pv
namespace Go.Pv
open Go.Proofs
set_option maxRecDepth 100000
set_option maxHeartbeats 8000000

/-- prompter/prompterlaw11.PlayRaises -/
abbrev c4_2 : PCode :=
 (.seq (.region [⟨(.some 8), (.mov (.c (.d (.bool .false)))), .none⟩])
 .ret)
abbrev c4_1 : PCode :=
 (.cond (.t 18)
  c4_2
  .skip)
abbrev c4_15 : PCode :=
 (.seq (.region [⟨(.some 8), (.mov (.c (.d (.bool .false)))), .none⟩])
 .ret)
abbrev c4_14 : PCode :=
 (.cond (.t 60)
  c4_15
  .skip)
abbrev c4_13 : PCode :=
 (.seq (.region [⟨(.some 53), (.faddr 0 (.t 14)), .none⟩,
   ⟨(.some 54), (.load .false 1 (.t 53) .false), .none⟩,
   ⟨(.some 55), (.bin .neq (.t 54) (.c (.d (.int .i64 17)))), .none⟩,
   ⟨(.some 56), (.mov (.t 55)), .none⟩,
   ⟨(.some 57), (.load .true 8 (.t 13) .false), (.some (56, .false))⟩,
   ⟨(.some 58), (.load .true 8 (.t 4) .false), (.some (56, .false))⟩,
   ⟨(.some 59), (.eqAgg .true [1, 1, 1, 1, 1, 1, 1, 1] (.t 57) (.t 58)), (.some (56, .false))⟩,
   ⟨(.some 60), (.pick (.t 56) (.c (.d (.bool .true))) (.t 59)), .none⟩])
 c4_14)
abbrev c4_20 : PCode :=
 (.seq (.region [⟨(.some 8), (.mov (.c (.d (.bool .false)))), .none⟩])
 .ret)
abbrev c4_19 : PCode :=
 (.cond (.t 78)
  c4_20
  .skip)
abbrev c4_18 : PCode :=
 (.seq (.region [⟨(.some 64), (.faddr 0 (.t 14)), .none⟩,
   ⟨(.some 65), (.load .false 1 (.t 64) .false), .none⟩,
   ⟨(.some 66), (.bin .neq (.t 65) (.c (.d (.int .i64 16)))), .none⟩,
   ⟨(.some 67), (.mov (.t 66)), .none⟩,
   ⟨(.some 68), (.faddr 1 (.t 14)), (.some (67, .false))⟩,
   ⟨(.some 69), (.load .false 1 (.t 68) .false), (.some (67, .false))⟩,
   ⟨(.some 70), (.mov (.t 2)), (.some (67, .false))⟩,
   ⟨(.some 71), (.cvt .i64 (.t 70)), (.some (67, .false))⟩,
   ⟨(.some 72), (.bin .neq (.t 69) (.t 71)), (.some (67, .false))⟩,
   ⟨(.some 73), (.pick (.t 67) (.c (.d (.bool .true))) (.t 72)), .none⟩,
   ⟨(.some 74), (.mov (.t 73)), .none⟩,
   ⟨(.some 75), (.load .true 8 (.t 13) .false), (.some (74, .false))⟩,
   ⟨(.some 76), (.load .true 8 (.t 4) .false), (.some (74, .false))⟩,
   ⟨(.some 77), (.eqAgg .true [1, 1, 1, 1, 1, 1, 1, 1] (.t 75) (.t 76)), (.some (74, .false))⟩,
   ⟨(.some 78), (.pick (.t 74) (.c (.d (.bool .true))) (.t 77)), .none⟩])
 c4_19)
abbrev c4_23 : PCode :=
 (.seq (.region [⟨(.some 8), (.mov (.c (.d (.bool .false)))), .none⟩])
 .ret)
abbrev c4_22 : PCode :=
 (.cond (.t 79)
  c4_23
  .skip)
abbrev c4_21 : PCode :=
 (.seq (.region [⟨(.some 80), (.faddr 0 (.t 14)), .none⟩,
   ⟨(.some 81), (.load .false 1 (.t 80) .false), .none⟩,
   ⟨(.some 82), (.bin .neq (.t 81) (.c (.d (.int .i64 0)))), .none⟩,
   ⟨(.some 83), (.mov (.t 82)), .none⟩,
   ⟨(.some 84), (.load .true 8 (.t 13) .false), (.some (83, .false))⟩,
   ⟨(.some 85), (.load .true 8 (.t 15) .false), (.some (83, .false))⟩,
   ⟨(.some 86), (.eqAgg .true [1, 1, 1, 1, 1, 1, 1, 1] (.t 84) (.t 85)), (.some (83, .false))⟩,
   ⟨(.some 87), (.pick (.t 83) (.c (.d (.bool .true))) (.t 86)), .none⟩,
   ⟨(.some 79), (.mov (.t 87)), .none⟩])
 c4_22)
abbrev c4_17 : PCode :=
 (.cond (.t 61)
  c4_18
  c4_21)
abbrev c4_16 : PCode :=
 (.seq (.region [⟨(.some 62), (.mov (.t 11)), .none⟩,
   ⟨(.some 63), (.bin .neq (.t 62) (.c (.d (.int .i64 0)))), .none⟩,
   ⟨(.some 61), (.mov (.t 63)), .none⟩])
 c4_17)
abbrev c4_12 : PCode :=
 (.cond (.t 46)
  c4_13
  c4_16)
abbrev c4_28 : PCode :=
 (.seq (.region [⟨(.some 8), (.mov (.c (.d (.bool .false)))), .none⟩])
 .ret)
abbrev c4_27 : PCode :=
 (.cond (.t 132)
  c4_28
  .skip)
abbrev c4_26 : PCode :=
 (.keep [2, 4, 9, 11, 13, 14, 29, 30, 31] (.seq (.region [⟨(.some 99), (.mov (.t 11)), .none⟩,
   ⟨(.some 100), (.bin .eql (.t 99) (.c (.d (.int .i64 0)))), .none⟩,
   ⟨(.some 101), (.mov (.t 100)), .none⟩,
   ⟨(.some 102), (.faddr 0 (.t 14)), (.some (101, .true))⟩,
   ⟨(.some 103), (.load .false 1 (.t 102) .false), (.some (101, .true))⟩,
   ⟨(.some 104), (.bin .neq (.t 103) (.c (.d (.int .i64 14)))), (.some (101, .true))⟩,
   ⟨(.some 105), (.mov (.t 104)), (.some (101, .true))⟩,
   ⟨(.some 106), (.load .true 8 (.t 13) .false), (.some (105, .false))⟩,
   ⟨(.some 107), (.load .true 8 (.t 4) .false), (.some (105, .false))⟩,
   ⟨(.some 108), (.eqAgg .true [1, 1, 1, 1, 1, 1, 1, 1] (.t 106) (.t 107)), (.some (105, .false))⟩,
   ⟨(.some 109), (.pick (.t 105) (.c (.d (.bool .true))) (.t 108)), (.some (101, .true))⟩,
   ⟨(.some 110), (.pick (.t 101) (.t 109) (.c (.d (.bool .false)))), .none⟩,
   ⟨(.some 111), (.mov (.t 110)), .none⟩,
   ⟨(.some 112), (.mov (.t 11)), (.some (111, .false))⟩,
   ⟨(.some 113), (.bin .gtr (.t 112) (.c (.d (.int .i64 0)))), (.some (111, .false))⟩,
   ⟨(.some 114), (.mov (.t 113)), (.some (111, .false))⟩,
   ⟨(.some 115), (.mov (.t 11)), (.some (114, .true))⟩,
   ⟨(.some 116), (.bin .leq (.t 115) (.c (.d (.int .i64 65535)))), (.some (114, .true))⟩,
   ⟨(.some 117), (.pick (.t 114) (.t 116) (.c (.d (.bool .false)))), (.some (111, .false))⟩,
   ⟨(.some 118), (.mov (.t 117)), (.some (111, .false))⟩,
   ⟨(.some 119), (.faddr 0 (.t 14)), (.some (118, .true))⟩,
   ⟨(.some 120), (.load .false 1 (.t 119) .false), (.some (118, .true))⟩,
   ⟨(.some 121), (.bin .neq (.t 120) (.c (.d (.int .i64 0)))), (.some (118, .true))⟩,
   ⟨(.some 122), (.mov (.t 121)), (.some (118, .true))⟩,
   ⟨(.some 123), (.iaddrA 8 1 (.t 13) (.c (.d (.int .i64 2)))), (.some (122, .false))⟩,
   ⟨(.some 124), (.load .false 1 (.t 123) .false), (.some (122, .false))⟩,
   ⟨(.some 125), (.iaddrA 8 1 (.t 4) (.c (.d (.int .i64 3)))), (.some (122, .false))⟩,
   ⟨(.some 126), (.load .false 1 (.t 125) .false), (.some (122, .false))⟩,
   ⟨(.some 127), (.mov (.t 11)), (.some (122, .false))⟩,
   ⟨(.some 128), (.bin .quo (.t 126) (.t 127)), (.some (122, .false))⟩,
   ⟨(.some 129), (.bin .neq (.t 124) (.t 128)), (.some (122, .false))⟩,
   ⟨(.some 130), (.pick (.t 122) (.c (.d (.bool .true))) (.t 129)), (.some (118, .true))⟩,
   ⟨(.some 131), (.pick (.t 118) (.t 130) (.c (.d (.bool .false)))), (.some (111, .false))⟩,
   ⟨(.some 132), (.pick (.t 111) (.c (.d (.bool .true))) (.t 131)), .none⟩])
 c4_27))
abbrev c4_25 : PCode :=
 (.keep [2, 4, 9, 11, 12, 13, 14, 16, 29, 30, 31] (.seq (.region [⟨(.some 93), (.load .true 9 (.t 16) .false), .none⟩,
   ⟨(.some 94), (.load .true 8 (.t 4) .false), .none⟩,
   ⟨(.some 95), (.load .true 4 (.t 12) .false), .none⟩,
   ⟨(.some 96), (.call0 13 [(.t 93), (.t 94), (.t 95)]), .none⟩,
   ⟨(.some 92), (.mov (.t 96)), .none⟩,
   ⟨(.some 97), (.ext (.t 92) 0), .none⟩,
   ⟨(.some 98), (.ext (.t 92) 1), .none⟩,
   ⟨.none, (.store 8 (.t 13) (.t 97)), .none⟩,
   ⟨.none, (.store 6 (.t 14) (.t 98)), .none⟩])
 c4_26))
abbrev c4_24 : PCode :=
 (.keep [2, 4, 9, 11, 12, 13, 14, 29, 30, 31] (.seq (.region [⟨(.some 88), (.bld [(.d (.int .u8 0)), (.d (.int .i64 0)), (.full []), (.full [])] [(0, (1, (.c (.d (.int .u8 1)))))]), .none⟩,
   ⟨(.some 89), (.bld [(.d (.int .u8 0)), (.d (.int .u8 0)), (.d (.int .u8 0)), (.d (.int .u8 0)), (.d (.int .i16 0))] [(0, (1, (.c (.d (.int .u8 6))))), (1, (1, (.c (.d (.int .u8 2))))), (2, (1, (.c (.d (.int .u8 3))))), (3, (1, (.c (.d (.int .u8 8)))))]), .none⟩,
   ⟨(.some 90), (.bsl 5 [(.t 89)]), .none⟩,
   ⟨(.some 91), (.bld [(.d (.int .u8 0)), (.d (.int .i64 0)), (.full []), (.full []), (.d (.int .u8 0)), (.d (.int .i64 0)), (.full []), (.full []), (.full [])] [(0, (4, (.t 88))), (8, (1, (.t 90)))]), .none⟩,
   ⟨(.some 16), (.alloc [(.d (.int .u8 0)), (.d (.int .i64 0)), (.full []), (.full []), (.d (.int .u8 0)), (.d (.int .i64 0)), (.full []), (.full []), (.full [])]), .none⟩,
   ⟨.none, (.store 9 (.t 16) (.t 91)), .none⟩])
 c4_25))
abbrev c4_11 : PCode :=
 (.seq (.block 2 (.seq (.region [⟨(.some 47), (.mov (.t 11)), .none⟩,
   ⟨(.some 48), (.bin .lss (.t 47) (.c (.d (.int .i64 0)))), .none⟩,
   ⟨(.some 49), (.mov (.t 48)), .none⟩,
   ⟨(.some 50), (.mov (.t 11)), (.some (49, .false))⟩,
   ⟨(.some 51), (.bin .gtr (.t 50) (.c (.d (.int .i64 65535)))), (.some (49, .false))⟩,
   ⟨(.some 52), (.pick (.t 49) (.c (.d (.bool .true))) (.t 51)), .none⟩,
   ⟨(.some 46), (.mov (.t 52)), .none⟩])
 c4_12))
 c4_24)
abbrev c4_10 : PCode :=
 (.keep [2, 4, 9, 11, 12, 13, 14, 15, 29, 30, 31] (.seq (.region [⟨(.some 45), (.iaddrA 8 1 (.t 15) (.c (.d (.int .i64 1)))), .none⟩,
   ⟨.none, (.store 1 (.t 45) (.c (.d (.int .i64 7)))), .none⟩])
 c4_11))
abbrev c4_9 : PCode :=
 (.keep [2, 4, 9, 11, 12, 13, 14, 29, 30, 31] (.seq (.region [⟨(.some 44), (.load .true 8 (.t 4) .false), .none⟩,
   ⟨(.some 15), (.alloc [(.d (.int .i64 0)), (.d (.int .i64 0)), (.d (.int .i64 0)), (.d (.int .i64 0)), (.d (.int .i64 0)), (.d (.int .i64 0)), (.d (.int .i64 0)), (.d (.int .i64 0))]), .none⟩,
   ⟨.none, (.store 8 (.t 15) (.t 44)), .none⟩])
 c4_10))
abbrev c4_8 : PCode :=
 (.keep [2, 4, 9, 11, 12, 29, 30, 31] (.seq (.region [⟨(.some 38), (.load .true 9 (.t 9) .false), .none⟩,
   ⟨(.some 39), (.load .true 8 (.t 4) .false), .none⟩,
   ⟨(.some 40), (.load .true 4 (.t 12) .false), .none⟩,
   ⟨(.some 41), (.call0 13 [(.t 38), (.t 39), (.t 40)]), .none⟩,
   ⟨(.some 37), (.mov (.t 41)), .none⟩,
   ⟨(.some 42), (.ext (.t 37) 0), .none⟩,
   ⟨(.some 43), (.ext (.t 37) 1), .none⟩,
   ⟨(.some 13), (.alloc [(.d (.int .i64 0)), (.d (.int .i64 0)), (.d (.int .i64 0)), (.d (.int .i64 0)), (.d (.int .i64 0)), (.d (.int .i64 0)), (.d (.int .i64 0)), (.d (.int .i64 0))]), .none⟩,
   ⟨(.some 14), (.alloc [(.d (.int .i64 0)), (.d (.int .i64 0)), (.d (.int .i64 0)), (.d (.flt .f64 0)), (.d (.str (bs []))), (.full [])]), .none⟩,
   ⟨.none, (.store 8 (.t 13) (.t 42)), .none⟩,
   ⟨.none, (.store 6 (.t 14) (.t 43)), .none⟩])
 c4_9))
abbrev c4_7 : PCode :=
 (.keep [2, 4, 9, 11, 29, 30, 31] (.seq (.region [⟨(.some 35), (.mov (.t 11)), .none⟩,
   ⟨(.some 36), (.bld [(.d (.int .i64 0)), (.d (.flt .f64 0)), (.d (.str (bs []))), (.full [])] [(0, (1, (.t 35)))]), .none⟩,
   ⟨(.some 12), (.alloc [(.d (.int .i64 0)), (.d (.flt .f64 0)), (.d (.str (bs []))), (.full [])]), .none⟩,
   ⟨.none, (.store 4 (.t 12) (.t 36)), .none⟩])
 c4_8))
abbrev c4_6 : PCode :=
 (.block 1 (.seq (.region [⟨(.some 33), (.iaddr 1 (.t 29) (.t 31)), .none⟩,
   ⟨(.some 34), (.load .false 1 (.t 33) .false), .none⟩,
   ⟨(.some 11), (.mov (.t 34)), .none⟩])
 c4_7))
abbrev c4_5 : PCode :=
 (.keep [2, 4, 9, 29, 30, 31] (.block 0 (.loop (.some [31, 2, 4, 9, 29, 30]) (.seq (.region [⟨(.some 32), (.bin .lss (.t 31) (.t 30)), .none⟩])
 (.seq (.cond (.t 32)
  .skip
  (.exit 0))
 (.seq c4_6
 (.region [⟨(.some 133), (.bin .add (.t 31) (.c (.d (.int .i64 1)))), .none⟩,
   ⟨(.some 31), (.mov (.t 133)), .none⟩])))))))
abbrev c4_29 : PCode :=
 (.seq (.region [⟨(.some 8), (.mov (.c (.d (.bool .true)))), .none⟩])
 .ret)
abbrev c4_4 : PCode :=
 (.keep [1, 2, 3, 4, 9] (.seq (.seq (.region [⟨(.some 26), (.mov (.t 3)), .none⟩,
   ⟨(.some 27), (.cvt .i64 (.t 26)), .none⟩,
   ⟨(.some 28), (.mov (.t 1)), .none⟩,
   ⟨(.some 29), (.bsl 1 [(.c (.d (.int .i64 0))), (.t 27), (.t 28)]), .none⟩,
   ⟨(.some 30), (.len (.t 29)), .none⟩,
   ⟨(.some 31), (.mov (.c (.d (.int .i64 0)))), .none⟩])
 c4_5)
 c4_29))
abbrev c4_3 : PCode :=
 (.keep [1, 2, 3, 4] (.seq (.region [⟨(.some 19), (.bld [(.d (.int .u8 0)), (.d (.int .i64 0)), (.full []), (.full [])] [(0, (1, (.c (.d (.int .u8 1)))))]), .none⟩,
   ⟨(.some 20), (.mov (.t 2)), .none⟩,
   ⟨(.some 21), (.cvt .i16 (.t 20)), .none⟩,
   ⟨(.some 22), (.bld [(.d (.int .u8 0)), (.d (.int .u8 0)), (.d (.int .u8 0)), (.d (.int .u8 0)), (.d (.int .i16 0))] [(0, (1, (.c (.d (.int .u8 10))))), (2, (1, (.c (.d (.int .u8 8))))), (4, (1, (.t 21)))]), .none⟩,
   ⟨(.some 23), (.bld [(.d (.int .u8 0)), (.d (.int .u8 0)), (.d (.int .u8 0)), (.d (.int .u8 0)), (.d (.int .i16 0))] [(0, (1, (.c (.d (.int .u8 1))))), (1, (1, (.c (.d (.int .u8 1))))), (4, (1, (.c (.d (.int .i16 7)))))]), .none⟩,
   ⟨(.some 24), (.bsl 5 [(.t 22), (.t 23)]), .none⟩,
   ⟨(.some 25), (.bld [(.d (.int .u8 0)), (.d (.int .i64 0)), (.full []), (.full []), (.d (.int .u8 0)), (.d (.int .i64 0)), (.full []), (.full []), (.full [])] [(0, (4, (.t 19))), (8, (1, (.t 24)))]), .none⟩,
   ⟨(.some 9), (.alloc [(.d (.int .u8 0)), (.d (.int .i64 0)), (.full []), (.full []), (.d (.int .u8 0)), (.d (.int .i64 0)), (.full []), (.full []), (.full [])]), .none⟩,
   ⟨.none, (.store 9 (.t 9) (.t 25)), .none⟩])
 c4_4))
abbrev c4_0 : PCode :=
 (.seq (.seq (.region [⟨(.some 17), (.call0 9 []), .none⟩,
   ⟨(.some 18), (.not (.t 17)), .none⟩])
 c4_1)
 c4_3)
def c4 : PFun := ⟨
 (.seq (.region [⟨(.some 4), (.box 8 (.t 0)), .none⟩,
   ⟨(.some 8), (.mov (.c (.d (.bool .false)))), .none⟩])
 c4_0),
 4, 134, [(.tmp 8)]⟩

theorem e4 : entered Try.prog 4 = true := by kernel_rfl
theorem k4 : compFun Try.prog (fun _ => 0) 4 = some c4.er := by kernel_rfl


theorem progR_row (k : Int) : (progR k).map Ins.row = [[.int .u8 10, .int .u8 0, .int .u8 8, .int .u8 0, .int .i16 k], [.int .u8 1, .int .u8 1, .int .u8 0, .int .u8 0, .int .i16 7]] := rfl
theorem progD_row : progD.map Ins.row = [[.int .u8 6, .int .u8 2, .int .u8 3, .int .u8 8, .int .i16 0]] := rfl
theorem cR (k : Int) (hk : 0 ≤ k ∧ k ≤ 255) (S : List Int) (hS : S.length = 8) (hSr : Rok S) (x : Int) (hx : -9223372036854775808 ≤ x ∧ x ≤ 9223372036854775807) :
    Pure (PCalls Try.prog GG) 13 [.agg [.d (.int .u8 1), .d (.int .i64 0), .d (.sl []), .d (.sl []), .d (.int .u8 0), .d (.int .i64 0), .d (.sl []), .d (.sl []), .d (.sl ((progR k).map Ins.row))], .agg (sc S), .agg [.d (.int .i64 x), .d (.flt .f64 0), .d (.str (bs [])), .d (.sl [])]] (playA (playF crdT noT (progR k) S (numV x))) :=
  cPlay crdT noT (leaf_fit _ _) (leaf_fit _ _) (leaf_posd 0) leaf_cost (progR k) (progR_fit hk) (show 2 < 2 ^ 36 by decide) S hS hSr (numV x) (numV_fit hx) (fun _ => by show (1 : Nat) < _; decide)
theorem cD (S : List Int) (hS : S.length = 8) (hSr : Rok S) (x : Int) (hx : -9223372036854775808 ≤ x ∧ x ≤ 9223372036854775807) :
    Pure (PCalls Try.prog GG) 13 [.agg [.d (.int .u8 1), .d (.int .i64 0), .d (.sl []), .d (.sl []), .d (.int .u8 0), .d (.int .i64 0), .d (.sl []), .d (.sl []), .d (.sl (progD.map Ins.row))], .agg (sc S), .agg [.d (.int .i64 x), .d (.flt .f64 0), .d (.str (bs [])), .d (.sl [])]] (playA (playF crdT noT progD S (numV x))) :=
  cPlay crdT noT (leaf_fit _ _) (leaf_fit _ _) (leaf_posd 0) leaf_cost progD progD_fit (by decide) S hS hSr (numV x) (numV_fit hx) (fun _ => by show (1 : Nat) < _; decide)

theorem C4 (s0 s1 s2 s3 s4 s5 s6 s7 n k m : Int) (hSr : Rok [s0, s1, s2, s3, s4, s5, s6, s7]) (hn : -9223372036854775808 ≤ n ∧ n ≤ 9223372036854775807) (hk : 0 ≤ k ∧ k ≤ 255) (hm : 0 ≤ m ∧ m ≤ 255) :
    Pure (PCalls Try.prog GG) 4 [.agg (sc [s0, s1, s2, s3, s4, s5, s6, s7]), .d (.int .i64 n), .d (.int .u8 k), .d (.int .u8 m)] (b2 true) := by
  intro st; refine pcalls_of k4 e4 (of_decide_eq_true rfl) ?_; dsimp only [c4]; refine pstartL ?_; intro t hL; generalize hQ : pfin _ _ = Q
  (refine gor hL ?_; (repeat (clear hL; intro t hL; refine gor hL ?_))); refine po_boxA hL ?_; clear hL; intro p1 t hL
  refine gor hL ?_; (repeat (clear hL; intro t hL; refine gor hL ?_))
  refine po_c0 (C9) ?_
  refine gor hL ?_; (repeat (clear hL; intro t hL; refine gor hL ?_))
  have em : IntKind.i64.wrap m = m := IntWalk.i64_in _ (by omega)
  (refine gor hL ?_; (repeat (clear hL; intro t hL; refine gor hL ?_))); (with_reducible refine po_allocL hL rfl ?_); clear hL; intro p2 t hL
  have e16 : IntKind.i16.wrap k = k := IntWalk.i16_in _ (by omega)
  refine gnm ?_; rw [e16]
  refine gor hL ?_; (repeat (clear hL; intro t hL; refine gor hL ?_))
  refine gnm ?_; rw [em]
  rw [show ([[Dat.int IntKind.i64 0], [Dat.int IntKind.i64 m], [Dat.int IntKind.i64 n]] : List (List Dat)) = ([0, m, n] : List Int).map (fun x => [Dat.int .i64 x]) from rfl]
  (apply prangeJ (3) (by omega) (fun _ t => Lay st [.box p1 (sc [s0, s1, s2, s3, s4, s5, s6, s7]), .box p2 [.d (.int .u8 1), .d (.int .i64 0), .full [], .full [], .d (.int .u8 0), .d (.int .i64 0), .full [], .full [], .full ((progR k).map Ins.row)]] t)); (· exact trimA); (· exact fun _ => rfl)
  · exact hL.pk
  · intro t hL
    refine gor hL ?_; (repeat (clear hL; intro t hL; refine gor hL ?_))
    rw [← hQ]
    exact pfin_pure rfl hL.le
  · intro i hi t hL
    refine pblock ?_
    obtain ⟨x, hx, hxm⟩ := elem_at (l := [0, m, n]) hi
    have hxr : -9223372036854775808 ≤ x ∧ x ≤ 9223372036854775807 := by
      simp only [List.mem_cons, List.not_mem_nil, or_false] at hxm
      rcases hxm with rfl | rfl | rfl <;> omega
    refine gor hL ?_; (repeat (clear hL; intro t hL; refine gor hL ?_))
    (refine gor hL ?_; (repeat (clear hL; intro t hL; refine gor hL ?_))); (with_reducible refine po_allocL hL rfl ?_); clear hL; intro p3 t hL
    refine gor hL ?_; (repeat (clear hL; intro t hL; refine gor hL ?_))
    by_cases hin : 0 ≤ x ∧ x ≤ 65535
    · by_cases h0 : x = 0
      · subst h0
        have hA := cR k hk _ rfl hSr 0 hxr
        obtain ⟨b1, hb1⟩ := playR_0 s0 s1 s2 s3 s4 s5 s6 s7 k hk
        rw [hb1] at hA
        refine po_c0 hA ?_ (by rfl)
        refine gor hL ?_; (repeat (clear hL; intro t hL; refine gor hL ?_))
        (refine gor hL ?_; (repeat (clear hL; intro t hL; refine gor hL ?_))); (with_reducible refine po_allocL hL rfl ?_); clear hL; intro p4 t hL
        refine gor hL ?_; (repeat (clear hL; intro t hL; refine gor hL ?_))
        (refine gor hL ?_; (repeat (clear hL; intro t hL; refine gor hL ?_))); (with_reducible refine po_allocL hL rfl ?_); clear hL; intro p5 t hL
        refine gor hL ?_; (repeat (clear hL; intro t hL; refine gor hL ?_))
        (refine gor hL ?_; (repeat (clear hL; intro t hL; refine gor hL ?_))); (with_reducible refine po_allocL hL rfl ?_); clear hL; intro p6 t hL
        refine gor hL ?_; (repeat (clear hL; intro t hL; refine gor hL ?_))
        replace hL : Lay st [.box p6 (sc [s0, 7, s2, s3, s4, s5, s6, s7]), .box p5 [.d (.int .i64 0), .d (.int .i64 0), .d (.int .i64 b1.n), .d (.flt .f64 b1.f), .d (.str b1.s), .d (.sl (b1.of.map VT.row))], .box p4 (sc [s0, 7, s2, s3, s4, s5, s6, s7]), .box p3 [.d (.int .i64 0), .d (.flt .f64 0), .d (.str (bs [])), .full []], .box p1 (sc [s0, s1, s2, s3, s4, s5, s6, s7]), .box p2 [.d (.int .u8 1), .d (.int .i64 0), .full [], .full [], .d (.int .u8 0), .d (.int .i64 0), .full [], .full [], .full ((progR k).map Ins.row)]] _ := hL
        refine pblock ?_
        refine gor hL ?_; (repeat (clear hL; intro t hL; refine gor hL ?_))
        skip
        (refine gor hL ?_; (repeat (clear hL; intro t hL; refine gor hL ?_))); (with_reducible refine po_allocL hL rfl ?_); clear hL; intro p7 t hL
        refine gor hL ?_; (repeat (clear hL; intro t hL; refine gor hL ?_))
        have hA := cD _ rfl hSr 0 hxr
        rw [playD_0] at hA
        refine po_c0 hA ?_ (by rfl)
        refine gor hL ?_; (repeat (clear hL; intro t hL; refine gor hL ?_))
        replace hL : Lay st [.box p7 [.d (.int .u8 1), .d (.int .i64 0), .full [], .full [], .d (.int .u8 0), .d (.int .i64 0), .full [], .full [], .full (progD.map Ins.row)], .box p5 [.d (.int .i64 14), .d (.int .i64 0), .d (.int .i64 VT.zero.n), .d (.flt .f64 VT.zero.f), .d (.str VT.zero.s), .d (.sl (VT.zero.of.map VT.row))], .box p4 (sc [s0, s1, s2, s3, s4, s5, s6, s7]), .box p3 [.d (.int .i64 0), .d (.flt .f64 0), .d (.str (bs [])), .full []], .box p1 (sc [s0, s1, s2, s3, s4, s5, s6, s7]), .box p2 [.d (.int .u8 1), .d (.int .i64 0), .full [], .full [], .d (.int .u8 0), .d (.int .i64 0), .full [], .full [], .full ((progR k).map Ins.row)]] _ := hL.pk
        exact ⟨hL.pk, tr2⟩
      · -- not nought
        have hA := cR k hk _ rfl hSr x hxr
        rw [playR_x _ _ _ _ _ _ _ _ k x hk hin h0] at hA
        refine po_c0 hA ?_ (by rfl)
        refine gor hL ?_; (repeat (clear hL; intro t hL; refine gor hL ?_))
        (refine gor hL ?_; (repeat (clear hL; intro t hL; refine gor hL ?_))); (with_reducible refine po_allocL hL rfl ?_); clear hL; intro p4 t hL
        refine gor hL ?_; (repeat (clear hL; intro t hL; refine gor hL ?_))
        (refine gor hL ?_; (repeat (clear hL; intro t hL; refine gor hL ?_))); (with_reducible refine po_allocL hL rfl ?_); clear hL; intro p5 t hL
        refine gor hL ?_; (repeat (clear hL; intro t hL; refine gor hL ?_))
        (refine gor hL ?_; (repeat (clear hL; intro t hL; refine gor hL ?_))); (with_reducible refine po_allocL hL rfl ?_); clear hL; intro p6 t hL
        refine gor hL ?_; (repeat (clear hL; intro t hL; refine gor hL ?_))
        replace hL : Lay st [.box p6 (sc [s0, 7, s2, s3, s4, s5, s6, s7]), .box p5 [.d (.int .i64 16), .d (.int .i64 k), .d (.int .i64 VT.zero.n), .d (.flt .f64 VT.zero.f), .d (.str VT.zero.s), .d (.sl (VT.zero.of.map VT.row))], .box p4 (sc [s0, s1, s2, s3, s4, s5, s6, s7]), .box p3 [.d (.int .i64 x), .d (.flt .f64 0), .d (.str (bs [])), .full []], .box p1 (sc [s0, s1, s2, s3, s4, s5, s6, s7]), .box p2 [.d (.int .u8 1), .d (.int .i64 0), .full [], .full [], .d (.int .u8 0), .d (.int .i64 0), .full [], .full [], .full ((progR k).map Ins.row)]] _ := hL
        refine pblock ?_
        refine gor hL ?_; (repeat (clear hL; intro t hL; refine gor hL ?_))
        refine pcond_b rfl (fun h1 => absurd h1 (by simp; omega)) (fun h1 => ?_)
        refine gor hL ?_; (repeat (clear hL; intro t hL; refine gor hL ?_))
        refine pcond_b rfl (fun h2 => ?_) (fun h2 => absurd h2 (by simp; omega))
        refine gor hL ?_; (repeat (clear hL; intro t hL; refine gor hL ?_))
        refine gnm ?_; rw [show (k != IntKind.i64.wrap k) = false by rw [IntWalk.i64_in _ (by omega)]; simp]
        refine gor hL ?_; (repeat (clear hL; intro t hL; refine gor hL ?_))
        (refine gor hL ?_; (repeat (clear hL; intro t hL; refine gor hL ?_))); (with_reducible refine po_allocL hL rfl ?_); clear hL; intro p7 t hL
        refine gor hL ?_; (repeat (clear hL; intro t hL; refine gor hL ?_))
        have hA := cD _ rfl hSr x hxr
        obtain ⟨b2, hb2⟩ := playD_x s0 s1 s2 s3 s4 s5 s6 s7 x hin h0
        rw [hb2] at hA
        refine po_c0 hA ?_ (by rfl)
        refine gor hL ?_; (repeat (clear hL; intro t hL; refine gor hL ?_))
        replace hL : Lay st [.box p7 [.d (.int .u8 1), .d (.int .i64 0), .full [], .full [], .d (.int .u8 0), .d (.int .i64 0), .full [], .full [], .full (progD.map Ins.row)], .box p5 [.d (.int .i64 0), .d (.int .i64 0), .d (.int .i64 b2.n), .d (.flt .f64 b2.f), .d (.str b2.s), .d (.sl (b2.of.map VT.row))], .box p4 (sc [s0, s1, w64 (s3.tdiv x), s3, s4, s5, s6, s7]), .box p3 [.d (.int .i64 x), .d (.flt .f64 0), .d (.str (bs [])), .full []], .box p1 (sc [s0, s1, s2, s3, s4, s5, s6, s7]), .box p2 [.d (.int .u8 1), .d (.int .i64 0), .full [], .full [], .d (.int .u8 0), .d (.int .i64 0), .full [], .full [], .full ((progR k).map Ins.row)]] _ := hL.pk
        refine gnm ?_; rw [show (x == 0) = false by simp; omega, show (decide (x > 0) && decide (x ≤ 65535)) = true by simp; omega]
        refine gor hL ?_; (repeat (clear hL; intro t hL; refine gor hL ?_))
        refine po_quo rfl rfl h0 ?_
        refine gor hL ?_; (repeat (clear hL; intro t hL; refine gor hL ?_))
        exact ⟨hL.pk, tr2⟩
    · -- out of range
      have hA := cR k hk _ rfl hSr x hxr
      rw [playR_out k x hk _ hin] at hA
      refine po_c0 hA ?_ (by rfl)
      refine gor hL ?_; (repeat (clear hL; intro t hL; refine gor hL ?_))
      (refine gor hL ?_; (repeat (clear hL; intro t hL; refine gor hL ?_))); (with_reducible refine po_allocL hL rfl ?_); clear hL; intro p4 t hL
      refine gor hL ?_; (repeat (clear hL; intro t hL; refine gor hL ?_))
      (refine gor hL ?_; (repeat (clear hL; intro t hL; refine gor hL ?_))); (with_reducible refine po_allocL hL rfl ?_); clear hL; intro p5 t hL
      refine gor hL ?_; (repeat (clear hL; intro t hL; refine gor hL ?_))
      (refine gor hL ?_; (repeat (clear hL; intro t hL; refine gor hL ?_))); (with_reducible refine po_allocL hL rfl ?_); clear hL; intro p6 t hL
      refine gor hL ?_; (repeat (clear hL; intro t hL; refine gor hL ?_))
      replace hL : Lay st [.box p6 (sc [s0, 7, s2, s3, s4, s5, s6, s7]), .box p5 [.d (.int .i64 17), .d (.int .i64 0), .d (.int .i64 VT.zero.n), .d (.flt .f64 VT.zero.f), .d (.str VT.zero.s), .d (.sl (VT.zero.of.map VT.row))], .box p4 (sc [s0, s1, s2, s3, s4, s5, s6, s7]), .box p3 [.d (.int .i64 x), .d (.flt .f64 0), .d (.str (bs [])), .full []], .box p1 (sc [s0, s1, s2, s3, s4, s5, s6, s7]), .box p2 [.d (.int .u8 1), .d (.int .i64 0), .full [], .full [], .d (.int .u8 0), .d (.int .i64 0), .full [], .full [], .full ((progR k).map Ins.row)]] _ := hL
      refine pblock ?_
      refine gor hL ?_; (repeat (clear hL; intro t hL; refine gor hL ?_))
      refine pcond_b rfl (fun h1 => ?_) (fun h1 => absurd h1 (by simp; omega))
      refine gor hL ?_; (repeat (clear hL; intro t hL; refine gor hL ?_))
      (refine gor hL ?_; (repeat (clear hL; intro t hL; refine gor hL ?_))); (with_reducible refine po_allocL hL rfl ?_); clear hL; intro p7 t hL
      refine gor hL ?_; (repeat (clear hL; intro t hL; refine gor hL ?_))
      have hA := cD _ rfl hSr x hxr
      rw [playD_out x _ hin] at hA
      refine po_c0 hA ?_ (by rfl)
      refine gor hL ?_; (repeat (clear hL; intro t hL; refine gor hL ?_))
      replace hL : Lay st [.box p7 [.d (.int .u8 1), .d (.int .i64 0), .full [], .full [], .d (.int .u8 0), .d (.int .i64 0), .full [], .full [], .full (progD.map Ins.row)], .box p5 [.d (.int .i64 17), .d (.int .i64 0), .d (.int .i64 VT.zero.n), .d (.flt .f64 VT.zero.f), .d (.str VT.zero.s), .d (.sl (VT.zero.of.map VT.row))], .box p4 (sc [s0, s1, s2, s3, s4, s5, s6, s7]), .box p3 [.d (.int .i64 x), .d (.flt .f64 0), .d (.str (bs [])), .full []], .box p1 (sc [s0, s1, s2, s3, s4, s5, s6, s7]), .box p2 [.d (.int .u8 1), .d (.int .i64 0), .full [], .full [], .d (.int .u8 0), .d (.int .i64 0), .full [], .full [], .full ((progR k).map Ins.row)]] _ := hL.pk
      refine gnm ?_; rw [show (x == 0) = false by simp; omega, show (decide (x > 0) && decide (x ≤ 65535)) = false by simp; omega]
      refine gor hL ?_; (repeat (clear hL; intro t hL; refine gor hL ?_))
      exact ⟨hL.pk, tr2⟩
theorem len8 {S : List Int} (h : S.length = 8) : ∃ s0 s1 s2 s3 s4 s5 s6 s7, S = [s0, s1, s2, s3, s4, s5, s6, s7] := by
  match S, h with
  | [a, b, c, d, e, f, g, h], _ => exact ⟨a, b, c, d, e, f, g, h, rfl⟩
theorem raisesS (S : List Int) (hS : S.length = 8) (hSr : Rok S) (n k m : Int) (hn : -9223372036854775808 ≤ n ∧ n ≤ 9223372036854775807) (hk : 0 ≤ k ∧ k ≤ 255) (hm : 0 ≤ m ∧ m ≤ 255) :
    Pure (PCalls Try.prog GG) 4 [.agg (sc S), .d (.int .i64 n), .d (.int .u8 k), .d (.int .u8 m)] (b2 true) := by
  obtain ⟨s0, s1, s2, s3, s4, s5, s6, s7, rfl⟩ := len8 hS
  exact C4 s0 s1 s2 s3 s4 s5 s6 s7 n k m hSr hn hk hm
end Go.Pv
