/- Functions of the program, by value. No condition. -/
import Derived.Test.YtoghanbjiikheaaT22
namespace Go.Pv
open Go.Proofs
set_option maxRecDepth 100000
set_option maxHeartbeats 8000000

/-- slices.Clone[[]int,int] -/
abbrev c21r_2 : PCode :=
 (.seq (.region [⟨(.some 2), (.mov (.c (.full []))), .none⟩])
 .ret)
abbrev c21r_1 : PCode :=
 (.cond (.t 4)
  c21r_2
  .skip)
abbrev c21r_3 : PCode :=
 (.keep [0] (.seq (.region [⟨(.some 5), (.bsl 1 []), .none⟩,
   ⟨(.some 6), (.mov (.t 0)), .none⟩,
   ⟨(.some 7), (.appB 1 8 (.t 5) (.t 6)), .none⟩,
   ⟨(.some 2), (.mov (.t 7)), .none⟩])
 .ret))
abbrev c21r_0 : PCode :=
 (.seq (.seq (.region [⟨(.some 3), (.mov (.t 0)), .none⟩,
   ⟨(.some 4), (.isNilS .false (.t 3)), .none⟩])
 c21r_1)
 c21r_3)
def c21r : PFun := ⟨
 (.seq (.region [⟨(.some 2), (.mov (.c (.full []))), .none⟩])
 c21r_0),
 1, 8, [(.tmp 2)]⟩

/-- (prompter/troupe.View).Without -/
abbrev c18_0 : PCode :=
 (.keep [2, 3] (.seq (.region [⟨(.some 5), (.faddr 1 (.t 2)), .none⟩,
   ⟨(.some 6), (.load .false 1 (.t 5) .false), .none⟩,
   ⟨(.some 7), (.call0 21 [(.t 6)]), .none⟩,
   ⟨(.some 8), (.mkfn 26 [] [(.t 3)]), .none⟩,
   ⟨(.some 9), (.call0 25 [(.t 7), (.t 8)]), .none⟩,
   ⟨(.some 4), (.mov (.t 9)), .none⟩])
 .ret))
def c18 : PFun := ⟨
 (.seq (.region [⟨(.some 2), (.box 2 (.t 0)), .none⟩,
   ⟨(.some 3), (.box 1 (.t 1)), .none⟩,
   ⟨(.some 4), (.mov (.c (.full []))), .none⟩])
 c18_0),
 2, 10, [(.tmp 4)]⟩

/-- (prompter/troupe.View).With -/
abbrev c19_3 : PCode :=
 (.seq (.region [⟨(.some 15), (.mov (.t 5)), .none⟩,
   ⟨(.some 4), (.mov (.t 15)), .none⟩])
 .ret)
abbrev c19_2 : PCode :=
 (.keep [5] (.seq (.region [⟨(.some 13), (.mov (.t 5)), .none⟩,
   ⟨(.some 14), (.call0 27 [(.t 13)]), .none⟩])
 c19_3))
abbrev c19_1 : PCode :=
 (.keep [1, 5] (.seq (.region [⟨(.some 9), (.mov (.t 5)), .none⟩,
   ⟨(.some 10), (.mov (.t 1)), .none⟩,
   ⟨(.some 11), (.bsl 1 [(.t 10)]), .none⟩,
   ⟨(.some 12), (.appB 1 8 (.t 9) (.t 11)), .none⟩,
   ⟨(.some 5), (.mov (.t 12)), .none⟩])
 c19_2))
abbrev c19_0 : PCode :=
 (.seq (.region [⟨(.some 6), (.load .true 2 (.t 2) .false), .none⟩,
   ⟨(.some 7), (.mov (.t 1)), .none⟩,
   ⟨(.some 8), (.call0 18 [(.t 6), (.t 7)]), .none⟩,
   ⟨(.some 5), (.mov (.t 8)), .none⟩])
 c19_1)
def c19 : PFun := ⟨
 (.seq (.region [⟨(.some 2), (.box 2 (.t 0)), .none⟩,
   ⟨(.some 4), (.mov (.c (.full []))), .none⟩])
 c19_0),
 2, 16, [(.tmp 4)]⟩

theorem e21r : entered Try.prog 21 = true := by kernel_rfl
theorem k21r : compFun Try.prog (fun _ => 8) 21 = some c21r.er := by kernel_rfl
theorem e18 : entered Try.prog 18 = true := by kernel_rfl
theorem k18 : compFun Try.prog (fun _ => 0) 18 = some c18.er := by kernel_rfl
theorem e19 : entered Try.prog 19 = true := by kernel_rfl
theorem k19 : compFun Try.prog (fun _ => 8) 19 = some c19.er := by kernel_rfl

/-- A row that was made. -/
structure RowN (n : Nat) where
  b : Nat
  cap : Nat
  R : List AV
  hc : n ≤ cap
  hR : R.length = cap - n
theorem rowN_sat (n : Nat) (cs : List AV) : Sat [] (fun a : RowN n => [.box a.b (cs ++ a.R)]) := fun N => ⟨⟨N, n, [], Nat.le_refl _, by simp⟩, fun x hx => by
  rw [List.mem_singleton.1 hx]; exact .inr (Nat.le_refl _), by simp⟩
theorem CClone (l : List Int) (h0 : l ≠ []) (hl : l.length < 2 ^ 40) : CL (PCalls Try.prog GG) 21 [.d (ints l)] [] (fun a : RowN l.length => .bsl a.b 0 l.length a.cap) (fun a => [.box a.b (scI l ++ a.R)]) := by
  refine ⟨rowN_sat _ _, ?_⟩
  intro st t hL; refine pcalls_of k21r e21r (of_decide_eq_true rfl) ?_; dsimp only [c21r]; generalize hQ : pfin _ _ = Q
  refine gor hL ?_; (repeat (clear hL; intro t hL; refine gor hL ?_))
  refine po_nilS (b := false) rfl ?_ ?_
  · obtain ⟨x, l, rfl⟩ := List.exists_cons_of_ne_nil h0
    rfl
  refine gor hL ?_; (repeat (clear hL; intro t hL; refine gor hL ?_))
  have hil : (irows l).length = l.length := by simp [irows]
  refine po_appBL hL rfl rfl (news := irows l) rfl ?_ ?_ (fun e => ?_) (fun b cap t hne hc hL => ?_)
  · intro r hr; simp [irows] at hr; obtain ⟨x, _, rfl⟩ := hr; rfl
  · rw [hil]; omega
  · exact absurd (List.length_eq_zero_iff.1 (by rw [← hil, e]; rfl)) h0
  have hcs : (irows l).flatten.map AV.d = scI l := by
    clear hL hc hne hQ hl h0 hil
    induction l with
    | nil => rfl
    | cons x l ih => simp [irows, scI] at ih ⊢; exact ih
  rw [hcs, hil] at hL
  rw [hil] at hc ⊢
  refine gor hL ?_; (repeat (clear hL; intro t hL; refine gor hL ?_))
  rw [← hQ]
  exact ⟨_, _, _, rfl, .inl rfl, .refl _, ⟨b, cap, List.replicate ((cap - l.length) * 1) .undef, hc, by simp⟩, rfl, hL.pk⟩
theorem CWithout (num : Int) (ms : List Int) (n : Int) (h0 : ms ≠ []) (hl : ms.length < 2 ^ 40) : CL (PCalls Try.prog GG) 18 [view num ms, .d (.int .i64 n)] [] (fun a : RowN (keepF n ms).length => .bsl a.b 0 (keepF n ms).length a.cap) (fun a => [.box a.b (scI (keepF n ms) ++ a.R)]) := by
  refine ⟨rowN_sat _ _, ?_⟩
  intro st t hL; refine pcalls_of k18 e18 (of_decide_eq_true rfl) ?_; dsimp only [c18]; generalize hQ : pfin _ _ = Q
  (refine gor hL ?_; (repeat (clear hL; intro t hL; refine gor hL ?_))); refine po_boxA hL ?_; clear hL; intro p2 t hL
  (refine gor hL ?_; (repeat (clear hL; intro t hL; refine gor hL ?_))); refine po_boxA hL ?_; clear hL; intro p3 t hL
  refine gor hL ?_; (repeat (clear hL; intro t hL; refine gor hL ?_))
  refine po_callK hL (CClone ms h0 hl) ?_
  clear hL; intro a t hL
  obtain ⟨b, cap, R, hc, hR⟩ := a
  simp only at hL
  refine gor hL ?_; (repeat (clear hL; intro t hL; refine gor hL ?_))
  have hLm := hL.rem (x := .box b (scI ms ++ R)) (by repeat (first | exact Rem.head | apply Rem.tail))
  have hpb : p3 ≠ b := hLm.neq (by repeat (first | exact Rem.head | apply Rem.tail))
  have hbp : b ≠ p3 := fun e => hpb e.symm
  refine po_callK hL (C25 ms R n b cap p3 hbp (by omega) hc) ?_
  clear hL; intro R' t hL
  refine gor hL ?_; (repeat (clear hL; intro t hL; refine gor hL ?_))
  rw [← hQ]
  have hk : (keepF n ms).length ≤ ms.length := List.length_filter_le _ _
  refine ⟨_, _, _, rfl, .inl rfl, .refl _, ⟨b, cap, R'.1, by omega, by rw [R'.2, hR]; omega⟩, rfl, hL.pk⟩
end Go.Pv
