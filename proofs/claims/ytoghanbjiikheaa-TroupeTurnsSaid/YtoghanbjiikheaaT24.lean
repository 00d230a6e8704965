/- Functions of the program, by value. No condition. -/
import Derived.Test.YtoghanbjiikheaaT23
namespace Go.Pv
open Go.Proofs
set_option maxRecDepth 100000
set_option maxHeartbeats 8000000

theorem scI_push (l : List Int) (R T : List AV) (n : Int) : (scI l ++ R).take (l.length * 1) ++ ([[Dat.int .i64 n]] : List (List Dat)).flatten.map AV.d ++ T = scI (l ++ [n]) ++ T := by
  rw [Nat.mul_one, List.take_left' (by simp), scI, scI, List.map_append]; rfl
theorem po_appI {G : Glob} {C : CallsP} {st t : St} {x y : Arg} {d : Option Nat} {rest : List POper} {K : X → Prop} {s : Slots} {m : Mx} {b cap : Nat} {l : List Int} {R : List AV} {n : Int} (hL : Lay st [.box b (scI l ++ R)] t) (hm : m.st = t) (hx : x.ev G s = .bsl b 0 l.length cap) (hy : (y.ev G s).rows? = some [[.int .i64 n]])
    (hc : l.length ≤ cap) (hR : R.length = cap - l.length) (hfit : l.length < 2 ^ 30)
    (h : ∀ (a : RowN (l ++ [n]).length) t' m', Lay st [.box a.b (scI (l ++ [n]) ++ a.R)] t' → m'.st = t' → pops G C rest K ⟨put s d (.bsl a.b 0 (l ++ [n]).length a.cap), m'⟩) : pops G C (⟨d, .appB 1 8 x y, none⟩ :: rest) K ⟨s, m⟩ := by
  have hlen : (l ++ [n]).length = l.length + 1 := by simp
  rw [pops_plain]
  unfold ostep
  simp only [nf, hx, hy]
  have hb : t.box b = some (scI l ++ R) := hL.bx Rem.head
  have hcl : (scI l ++ R).length = cap * 1 := by rw [List.length_append, List.length_map, hR]; omega
  refine ⟨fun r hr => by rw [List.mem_singleton.1 hr]; rfl, rfl, hc, scI l ++ R, by rw [hm]; exact hb, hcl, by simp; omega, ?_⟩
  rw [if_neg (by simp)]
  rw [List.length_singleton, scI_push]
  split
  · rename_i hroom
    rw [← hlen]
    refine h ⟨b, cap, R.drop 1, by omega, by rw [List.length_drop, hR, hlen]; omega⟩ _ _ ?_ rfl
    have e : (scI l ++ R).drop (l.length * 1 + 1 * 1) = R.drop 1 := by
      rw [← List.drop_drop, List.drop_left' (by simp)]
    rw [e, hm]
    exact hL.store _
  · rename_i hroom
    intro b' cap' hb' hc'
    rw [scI_push, ← hlen]
    exact h ⟨b', cap', List.replicate ((cap' - (l ++ [n]).length) * 1) .undef, by omega, by simp⟩ _ _ ((hL.alloc (by rw [← hm]; exact hb') _).pick (.cons .head .nil)) (by rw [hm]; rfl)
def withF (n : Int) (ms : List Int) : List Int := (keepF n ms ++ [n]).mergeSort fun x y => decide (x ≤ y)
theorem CWith (num : Int) (ms : List Int) (n : Int) (h0 : ms ≠ []) (hl : ms.length < 2 ^ 29) : CL (PCalls Try.prog GG) 19 [view num ms, .d (.int .i64 n)] [] (fun a : RowN (withF n ms).length => .bsl a.b 0 (withF n ms).length a.cap) (fun a => [.box a.b (scI (withF n ms) ++ a.R)]) := by
  refine ⟨rowN_sat _ _, ?_⟩
  have hk : (keepF n ms).length ≤ ms.length := List.length_filter_le _ _
  have hw : (withF n ms).length = (keepF n ms ++ [n]).length := List.length_mergeSort _
  intro st t hL; refine pcalls_of k19 e19 (of_decide_eq_true rfl) ?_; dsimp only [c19]; generalize hQ : pfin _ _ = Q
  (refine gor hL ?_; (repeat (clear hL; intro t hL; refine gor hL ?_))); refine po_boxA hL ?_; clear hL; intro p2 t hL
  refine gor hL ?_; (repeat (clear hL; intro t hL; refine gor hL ?_))
  refine po_callK hL (CWithout num ms n h0 (by omega)) ?_
  clear hL; intro a t hL
  obtain ⟨b, cap, R, hc, hR⟩ := a
  simp only at hL
  refine gor hL ?_; (repeat (clear hL; intro t hL; refine gor hL ?_))
  replace hL : Lay st [.box b (scI (keepF n ms) ++ R)] t := hL.pk
  refine po_appI hL rfl rfl rfl hc hR (by omega) ?_
  clear hL
  rintro ⟨b, cap, R, hc, hR⟩ t m hL hm
  simp only at hL
  obtain ⟨mt, _, _⟩ := m
  simp only at hm
  subst hm
  refine gor hL ?_; (repeat (clear hL; intro t hL; refine gor hL ?_))
  refine po_callK hL (sortC (keepF n ms ++ [n]) R b cap (by simp; omega)) ?_
  clear hL; intro _ t hL
  refine gor hL ?_; (repeat (clear hL; intro t hL; refine gor hL ?_))
  rw [← hQ]
  refine ⟨_, .bsl b 0 (withF n ms).length cap, _, rfl, .inl (congrArg (fun z => AV.bsl b 0 z cap) hw), .refl _, ⟨b, cap, R, by omega, by rw [hw]; exact hR⟩, rfl, hL.pk⟩
theorem scI_flat (l : List Int) (R : List AV) : (scI l ++ R).map AV.weak1 = (irows l).flatten.map AV.d ++ R.map AV.weak1 := by
  rw [List.map_append, List.map_map]
  congr 1
  induction l with
  | nil => rfl
  | cons x l ih => simp [irows] at ih ⊢; exact ⟨rfl, ih⟩
theorem PWithout (num : Int) (ms : List Int) (n : Int) (h0 : ms ≠ []) (hl : ms.length < 2 ^ 29) : Pure (PCalls Try.prog GG) 18 [view num ms, .d (.int .i64 n)] (.d (ints (keepF n ms))) :=
  (CWithout num ms n h0 (by omega)).frzP (rows := irows (keepF n ms)) (sz := 1) (fun r hr => by simp [irows] at hr; obtain ⟨x, _, rfl⟩ := hr; rfl) fun a => ⟨a.b, a.cap, _, a.R.map AV.weak1, by simp [irows], rfl, scI_flat _ _⟩
theorem PWith (num : Int) (ms : List Int) (n : Int) (h0 : ms ≠ []) (hl : ms.length < 2 ^ 29) : Pure (PCalls Try.prog GG) 19 [view num ms, .d (.int .i64 n)] (.d (ints (withF n ms))) :=
  (CWith num ms n h0 hl).frzP (rows := irows (withF n ms)) (sz := 1) (fun r hr => by simp [irows] at hr; obtain ⟨x, _, rfl⟩ := hr; rfl) fun a => ⟨a.b, a.cap, _, a.R.map AV.weak1, by simp [irows], rfl, scI_flat _ _⟩
end Go.Pv
