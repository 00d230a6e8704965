/- A body that raises where an argument isn't 0; one that divides by it: plain. No condition. -/
import Derived.Test.YtmcdhendjlijhaaV23
import Derived.Test.YtmcdhendjlijhaaE1
namespace Go.Pv
set_option maxRecDepth 100000

def progR (k : Int) : List Ins := [⟨10, 0, 8, 0, k⟩, ⟨1, 1, 0, 0, 7⟩]
def progD : List Ins := [⟨6, 2, 3, 8, 0⟩]
theorem progR_fit {k : Int} (hk : 0 ≤ k ∧ k ≤ 255) : ∀ x ∈ progR k, x.fit := by
  intro x hx
  simp only [progR, List.mem_cons, List.not_mem_nil, or_false] at hx
  rcases hx with rfl | rfl
  · exact ⟨by dsimp only; omega, by dsimp only; omega, by dsimp only; omega, by dsimp only; omega, by dsimp only; omega⟩
  · exact ⟨by decide, by decide, by decide, by decide, by decide⟩
theorem progD_fit : ∀ x ∈ progD, x.fit := by
  intro x hx
  simp only [progD, List.mem_cons, List.not_mem_nil, or_false] at hx
  subst hx
  exact ⟨by decide, by decide, by decide, by decide, by decide⟩
theorem progR_ok {k : Int} (hk : 0 ≤ k ∧ k ≤ 255) : checkP (progR k) = 0 := by
  refine checkP_of (show 2 ≤ 24 by decide) (show ((2 : Nat) : Int) + (0 + (0 + 0)) ≤ 200 by decide) fun i x hx => chk1_zero.2 ?_
  match i, hx with
  | 0, hx =>
    simp only [progR, List.getElem?_cons_zero, Option.some.injEq] at hx
    subst hx
    exact ⟨by dsimp only; omega, by dsimp only; omega, by dsimp only; omega, fun _ => (by dsimp only; omega), fun h => absurd h (by dsimp only; omega), fun h => absurd h (by dsimp only; omega), fun _ => hk.1⟩
  | 1, hx =>
    simp only [progR, List.getElem?_cons_succ, List.getElem?_cons_zero, Option.some.injEq] at hx
    subst hx
    exact ⟨by dsimp only; omega, by dsimp only; omega, by dsimp only; omega, fun _ => (by dsimp only; omega), fun h => absurd h (by dsimp only; omega), fun h => absurd h (by dsimp only; omega), fun h => absurd h (by dsimp only; omega)⟩
  | i + 2, hx => simp [progR] at hx
theorem progD_ok : checkP progD = 0 := by kernel_rfl

abbrev crdT : KT := .mk 1 0 [] []
abbrev noT : KT := .mk 0 0 [] []
abbrev numV (x : Int) : VT := .mk x 0 (bs []) []
theorem is_card (x : Int) : VT.is 20 crdT (numV x) = (decide (x ≥ 0) && decide (x ≤ 65535)) := by
  have hp : VT.plain (numV x) = true := by kernel_rfl
  rw [VT.is]
  show (if (1 : Int) = 0 then _ else if (1 : Int) = 1 then (VT.plain (numV x) && decide (x ≥ 0) && decide (x ≤ 65535)) else _) = _
  rw [if_neg (by decide), if_pos rfl, hp, Bool.true_and]
theorem checkE_card (x : Int) : VT.checkE crdT (numV x) = if 0 ≤ x ∧ x ≤ 65535 then 0 else 17 := by
  rw [VT.checkE, is_card]
  by_cases h : 0 ≤ x ∧ x ≤ 65535
  · rw [if_pos h, if_pos (by simp; omega)]
  · rw [if_neg h, if_neg (by simp; omega)]
theorem flat_card {x : Int} (h : 0 ≤ x ∧ x ≤ 65535) : flatM 64 crdT (numV x) = [x] := by
  rw [flatM, if_pos (by rw [is_card]; simp; omega)]
  show (walkM 64 20 crdT (numV x) []).take 64 = [x]
  rw [walkM]
  rfl
theorem build_no {R : List Int} (h : Rok R) : VT.checkE noT (buildV R noT) = 0 := by
  rw [VT.checkE, if_pos (buildV_is h (show 1 ≤ 20 by decide) (WT.base 0 0 (by decide)))]
theorem numV_fit {x : Int} (h : -9223372036854775808 ≤ x ∧ x ≤ 9223372036854775807) : (numV x).fit := .mk h (by decide) (by decide) (by decide) (fun _ h => by cases h)

section
variable (s0 s1 s2 s3 s4 s5 s6 s7 : Int)
theorem go_R0 (k : Int) : go (progR k) [0] 3 0 2 (reg0 [s0, s1, s2, s3, s4, s5, s6, s7] [0]) = .done true [s0, 7, s2, s3, s4, s5, s6, s7, 0, 0, 0, 0, 0, 0, 0, 0] := by
  kernel_rfl
theorem go_R (k x : Int) (hx : x ≠ 0) : go (progR k) [x] 3 0 2 (reg0 [s0, s1, s2, s3, s4, s5, s6, s7] [x]) = .fail 16 k :=
  go_raise (x := ⟨10, 0, 8, 0, k⟩) (by decide) rfl ⟨by dsimp only; omega, by dsimp only; omega⟩ rfl hx
theorem go_D0 : go progD [0] 2 0 1 (reg0 [s0, s1, s2, s3, s4, s5, s6, s7] [0]) = .fail 14 0 := by kernel_rfl
theorem go_D (x : Int) (hx : x ≠ 0) : go progD [x] 2 0 1 (reg0 [s0, s1, s2, s3, s4, s5, s6, s7] [x]) = .done true [s0, s1, w64 (s3.tdiv x), s3, s4, s5, s6, s7, x, 0, 0, 0, 0, 0, 0, 0] :=
  (go_act (x := ⟨6, 2, 3, 8, 0⟩) (R := reg0 [s0, s1, s2, s3, s4, s5, s6, s7] [x]) (by decide) rfl ⟨by decide, by decide⟩ (by decide) (fun _ => hx) (fun h => absurd h (by decide)) (by decide) (fun h => absurd h (by decide))).trans rfl

theorem playF_bad {tk an : KT} {p : List Ins} {S : List Int} {v : VT} (h1 : checkP p = 0) (h2 : VT.checkE tk v ≠ 0) : playF tk an p S v = (S, 17, 0, .zero) := by
  rw [playF, if_neg (by rw [h1]; decide), if_pos h2]
theorem playF_fail {tk an : KT} {p : List Ins} {S args : List Int} {v : VT} {e r : Int} (h1 : checkP p = 0) (h2 : VT.checkE tk v = 0) (h3 : flatM 64 tk v = args) (h4 : go p args (p.length + 1) 0 p.length (reg0 S args) = .fail e r) : playF tk an p S v = (S, e, r, .zero) := by
  rw [playF, if_neg (by rw [h1]; decide), if_neg (by rw [h2]; decide), h3, h4]
theorem playF_done {tk an : KT} {p : List Ins} {S args R : List Int} {v : VT} {b : Bool} (h1 : checkP p = 0) (h2 : VT.checkE tk v = 0) (h3 : flatM 64 tk v = args) (h4 : go p args (p.length + 1) 0 p.length (reg0 S args) = .done b R) (h5 : VT.checkE an (buildV (R.drop 8) an) = 0) : playF tk an p S v = (R.take 8, 0, 0, buildV (R.drop 8) an) := by
  rw [playF, if_neg (by rw [h1]; decide), if_neg (by rw [h2]; decide), h3, h4]
  simp only [h5, ne_eq, not_true, if_false]

theorem card_ok {x : Int} (hx : 0 ≤ x ∧ x ≤ 65535) : VT.checkE crdT (numV x) = 0 := by rw [checkE_card, if_pos hx]
theorem playR_out (k x : Int) (hk : 0 ≤ k ∧ k ≤ 255) (S : List Int) (hx : ¬ (0 ≤ x ∧ x ≤ 65535)) : playF crdT noT (progR k) S (numV x) = (S, 17, 0, .zero) :=
  playF_bad (progR_ok hk) (by rw [checkE_card, if_neg hx]; decide)
theorem playR_x (k x : Int) (hk : 0 ≤ k ∧ k ≤ 255) (hx : 0 ≤ x ∧ x ≤ 65535) (h0 : x ≠ 0) : playF crdT noT (progR k) [s0, s1, s2, s3, s4, s5, s6, s7] (numV x) = ([s0, s1, s2, s3, s4, s5, s6, s7], 16, k, .zero) :=
  playF_fail (progR_ok hk) (card_ok hx) (flat_card hx) (go_R _ _ _ _ _ _ _ _ k x h0)
theorem playR_0 (k : Int) (hk : 0 ≤ k ∧ k ≤ 255) : ∃ b, playF crdT noT (progR k) [s0, s1, s2, s3, s4, s5, s6, s7] (numV 0) = ([s0, 7, s2, s3, s4, s5, s6, s7], 0, 0, b) :=
  ⟨_, playF_done (progR_ok hk) (card_ok (by decide)) (flat_card (by decide)) (go_R0 _ _ _ _ _ _ _ _ k) (build_no fun x hx => by simp at hx; omega)⟩
theorem playD_out (x : Int) (S : List Int) (hx : ¬ (0 ≤ x ∧ x ≤ 65535)) : playF crdT noT progD S (numV x) = (S, 17, 0, .zero) :=
  playF_bad progD_ok (by rw [checkE_card, if_neg hx]; decide)
theorem playD_0 : playF crdT noT progD [s0, s1, s2, s3, s4, s5, s6, s7] (numV 0) = ([s0, s1, s2, s3, s4, s5, s6, s7], 14, 0, .zero) :=
  playF_fail progD_ok (card_ok (by decide)) (flat_card (by decide)) (go_D0 _ _ _ _ _ _ _ _)
theorem playD_x (x : Int) (hx : 0 ≤ x ∧ x ≤ 65535) (h0 : x ≠ 0) : ∃ b, playF crdT noT progD [s0, s1, s2, s3, s4, s5, s6, s7] (numV x) = ([s0, s1, w64 (s3.tdiv x), s3, s4, s5, s6, s7], 0, 0, b) :=
  ⟨_, playF_done progD_ok (card_ok hx) (flat_card hx) (go_D _ _ _ _ _ _ _ _ x h0) (build_no fun y hy => by simp at hy; omega)⟩
end
end Go.Pv
