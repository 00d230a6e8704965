/- Functions of the program, by value. No condition. -/
import Derived.Test.YtidelhpljjjjmaaW1
import Derived.Test.YtidelhpljjjjmaaR1
namespace Go.Pv
open Go.Proofs
set_option maxRecDepth 100000
set_option maxHeartbeats 8000000

/-- prompter/courier.put -/
abbrev c49_5 : PCode :=
 (.region [⟨(.some 15), (.bin .eql (.t 11) (.c (.d (.int .u8 7)))), .none⟩,
   ⟨(.some 12), (.mov (.t 15)), .none⟩])
abbrev c49_4 : PCode :=
 (.cond (.t 12)
  .skip
  c49_5)
abbrev c49_3 : PCode :=
 (.seq (.region [⟨(.some 14), (.bin .eql (.t 11) (.c (.d (.int .u8 1)))), .none⟩,
   ⟨(.some 12), (.mov (.t 14)), .none⟩])
 c49_4)
abbrev c49_2 : PCode :=
 (.cond (.t 12)
  .skip
  c49_3)
abbrev c49_7 : PCode :=
 (.region [⟨(.some 16), (.mov (.t 0)), .none⟩,
   ⟨(.some 17), (.faddr 0 (.t 5)), .none⟩,
   ⟨(.some 18), (.load .false 1 (.t 17) .false), .none⟩,
   ⟨(.some 19), (.cvt .u16 (.t 18)), .none⟩,
   ⟨(.some 20), (.call0 64 [(.t 16), (.t 19)]), .none⟩])
abbrev c49_10 : PCode :=
 (.region [⟨(.some 23), (.mov (.t 0)), .none⟩,
   ⟨(.some 24), (.faddr 0 (.t 5)), .none⟩,
   ⟨(.some 25), (.load .false 1 (.t 24) .false), .none⟩,
   ⟨(.some 26), (.cvt .u32 (.t 25)), .none⟩,
   ⟨(.some 27), (.call0 65 [(.t 23), (.t 26)]), .none⟩])
abbrev c49_13 : PCode :=
 (.region [⟨(.some 30), (.mov (.t 0)), .none⟩,
   ⟨(.some 31), (.faddr 1 (.t 5)), .none⟩,
   ⟨(.some 32), (.load .false 1 (.t 31) .false), .none⟩,
   ⟨(.some 33), (.call0 60 [(.t 32)]), .none⟩,
   ⟨(.some 34), (.call0 66 [(.t 30), (.t 33)]), .none⟩])
abbrev c49_16 : PCode :=
 (.region [⟨(.some 37), (.mov (.t 0)), .none⟩,
   ⟨(.some 38), (.faddr 2 (.t 5)), .none⟩,
   ⟨(.some 39), (.load .false 1 (.t 38) .false), .none⟩,
   ⟨(.some 40), (.call0 67 [(.t 37), (.t 39)]), .none⟩])
abbrev c49_23 : PCode :=
 (.region [⟨(.some 56), (.mov (.t 0)), .none⟩,
   ⟨(.some 57), (.faddr 3 (.t 4)), .none⟩,
   ⟨(.some 58), (.load .false 1 (.t 57) .false), .none⟩,
   ⟨(.some 59), (.iaddr 4 (.t 58) (.c (.d (.int .i64 0)))), .none⟩,
   ⟨(.some 60), (.load .true 4 (.t 59) .false), .none⟩,
   ⟨(.some 61), (.load .true 4 (.t 7) .false), .none⟩,
   ⟨(.some 62), (.call0 49 [(.t 56), (.t 60), (.t 61)]), .none⟩])
abbrev c49_22 : PCode :=
 (.block 2 (.seq (.region [⟨(.some 54), (.iaddr 4 (.t 50) (.t 52)), .none⟩,
   ⟨(.some 55), (.load .true 4 (.t 54) .false), .none⟩,
   ⟨(.some 7), (.alloc [(.d (.int .i64 0)), (.d (.flt .f64 0)), (.d (.str (bs []))), (.full [])]), .none⟩,
   ⟨.none, (.store 4 (.t 7) (.t 55)), .none⟩])
 c49_23))
abbrev c49_21 : PCode :=
 (.keep [0, 4, 50, 51, 52] (.block 1 (.loop (.some [52, 0, 4, 50, 51]) (.seq (.region [⟨(.some 53), (.bin .lss (.t 52) (.t 51)), .none⟩])
 (.seq (.cond (.t 53)
  .skip
  (.exit 1))
 (.seq c49_22
 (.region [⟨(.some 63), (.bin .add (.t 52) (.c (.d (.int .i64 1)))), .none⟩,
   ⟨(.some 52), (.mov (.t 63)), .none⟩])))))))
abbrev c49_20 : PCode :=
 (.keep [0, 4, 5] (.seq (.region [⟨(.some 49), (.faddr 3 (.t 5)), .none⟩,
   ⟨(.some 50), (.load .false 1 (.t 49) .false), .none⟩,
   ⟨(.some 51), (.len (.t 50)), .none⟩,
   ⟨(.some 52), (.mov (.c (.d (.int .i64 0)))), .none⟩])
 c49_21))
abbrev c49_19 : PCode :=
 (.seq (.region [⟨(.some 43), (.mov (.t 0)), .none⟩,
   ⟨(.some 44), (.faddr 3 (.t 5)), .none⟩,
   ⟨(.some 45), (.load .false 1 (.t 44) .false), .none⟩,
   ⟨(.some 46), (.len (.t 45)), .none⟩,
   ⟨(.some 47), (.cvt .u16 (.t 46)), .none⟩,
   ⟨(.some 48), (.call0 64 [(.t 43), (.t 47)]), .none⟩])
 c49_20)
abbrev c49_29 : PCode :=
 (.keep [0, 4, 8, 9, 67, 68, 69] (.region [⟨(.some 74), (.mov (.t 0)), .none⟩,
   ⟨(.some 75), (.faddr 3 (.t 4)), .none⟩,
   ⟨(.some 76), (.load .false 1 (.t 75) .false), .none⟩,
   ⟨(.some 77), (.mov (.t 8)), .none⟩,
   ⟨(.some 78), (.iaddr 4 (.t 76) (.t 77)), .none⟩,
   ⟨(.some 79), (.load .true 4 (.t 78) .false), .none⟩,
   ⟨(.some 80), (.load .true 4 (.t 9) .false), .none⟩,
   ⟨(.some 81), (.call0 49 [(.t 74), (.t 79), (.t 80)]), .none⟩]))
abbrev c49_28 : PCode :=
 (.block 4 (.seq (.region [⟨(.some 71), (.mov (.t 69)), .none⟩,
   ⟨(.some 72), (.iaddr 4 (.t 67) (.t 69)), .none⟩,
   ⟨(.some 73), (.load .true 4 (.t 72) .false), .none⟩,
   ⟨(.some 9), (.alloc [(.d (.int .i64 0)), (.d (.flt .f64 0)), (.d (.str (bs []))), (.full [])]), .none⟩,
   ⟨(.some 8), (.mov (.t 71)), .none⟩,
   ⟨.none, (.store 4 (.t 9) (.t 73)), .none⟩])
 c49_29))
abbrev c49_27 : PCode :=
 (.keep [0, 4, 67, 68, 69] (.block 3 (.loop (.some [69, 0, 4, 67, 68]) (.seq (.region [⟨(.some 70), (.bin .lss (.t 69) (.t 68)), .none⟩])
 (.seq (.cond (.t 70)
  .skip
  (.exit 3))
 (.seq c49_28
 (.region [⟨(.some 82), (.bin .add (.t 69) (.c (.d (.int .i64 1)))), .none⟩,
   ⟨(.some 69), (.mov (.t 82)), .none⟩])))))))
abbrev c49_26 : PCode :=
 (.seq (.region [⟨(.some 66), (.faddr 3 (.t 5)), .none⟩,
   ⟨(.some 67), (.load .false 1 (.t 66) .false), .none⟩,
   ⟨(.some 68), (.len (.t 67)), .none⟩,
   ⟨(.some 69), (.mov (.c (.d (.int .i64 0)))), .none⟩])
 c49_27)
abbrev c49_33 : PCode :=
 (.region [⟨(.some 90), (.mov (.t 0)), .none⟩,
   ⟨(.some 91), (.faddr 3 (.t 4)), .none⟩,
   ⟨(.some 92), (.load .false 1 (.t 91) .false), .none⟩,
   ⟨(.some 93), (.faddr 0 (.t 5)), .none⟩,
   ⟨(.some 94), (.load .false 1 (.t 93) .false), .none⟩,
   ⟨(.some 95), (.iaddr 4 (.t 92) (.t 94)), .none⟩,
   ⟨(.some 96), (.load .true 4 (.t 95) .false), .none⟩,
   ⟨(.some 97), (.faddr 3 (.t 5)), .none⟩,
   ⟨(.some 98), (.load .false 1 (.t 97) .false), .none⟩,
   ⟨(.some 99), (.iaddr 4 (.t 98) (.c (.d (.int .i64 0)))), .none⟩,
   ⟨(.some 100), (.load .true 4 (.t 99) .false), .none⟩,
   ⟨(.some 101), (.call0 49 [(.t 90), (.t 96), (.t 100)]), .none⟩])
abbrev c49_32 : PCode :=
 (.seq (.region [⟨(.some 85), (.mov (.t 0)), .none⟩,
   ⟨(.some 86), (.faddr 0 (.t 5)), .none⟩,
   ⟨(.some 87), (.load .false 1 (.t 86) .false), .none⟩,
   ⟨(.some 88), (.cvt .u16 (.t 87)), .none⟩,
   ⟨(.some 89), (.call0 64 [(.t 85), (.t 88)]), .none⟩])
 c49_33)
abbrev c49_31 : PCode :=
 (.cond (.t 83)
  c49_32
  .skip)
abbrev c49_30 : PCode :=
 (.seq (.region [⟨(.some 84), (.bin .eql (.t 11) (.c (.d (.int .u8 8)))), .none⟩,
   ⟨(.some 83), (.mov (.t 84)), .none⟩])
 c49_31)
abbrev c49_25 : PCode :=
 (.cond (.t 64)
  c49_26
  c49_30)
abbrev c49_24 : PCode :=
 (.seq (.region [⟨(.some 65), (.bin .eql (.t 11) (.c (.d (.int .u8 6)))), .none⟩,
   ⟨(.some 64), (.mov (.t 65)), .none⟩])
 c49_25)
abbrev c49_18 : PCode :=
 (.cond (.t 41)
  c49_19
  c49_24)
abbrev c49_17 : PCode :=
 (.seq (.region [⟨(.some 42), (.bin .eql (.t 11) (.c (.d (.int .u8 5)))), .none⟩,
   ⟨(.some 41), (.mov (.t 42)), .none⟩])
 c49_18)
abbrev c49_15 : PCode :=
 (.cond (.t 35)
  c49_16
  c49_17)
abbrev c49_14 : PCode :=
 (.seq (.region [⟨(.some 36), (.bin .eql (.t 11) (.c (.d (.int .u8 4)))), .none⟩,
   ⟨(.some 35), (.mov (.t 36)), .none⟩])
 c49_15)
abbrev c49_12 : PCode :=
 (.cond (.t 28)
  c49_13
  c49_14)
abbrev c49_11 : PCode :=
 (.seq (.region [⟨(.some 29), (.bin .eql (.t 11) (.c (.d (.int .u8 3)))), .none⟩,
   ⟨(.some 28), (.mov (.t 29)), .none⟩])
 c49_12)
abbrev c49_9 : PCode :=
 (.cond (.t 21)
  c49_10
  c49_11)
abbrev c49_8 : PCode :=
 (.seq (.region [⟨(.some 22), (.bin .eql (.t 11) (.c (.d (.int .u8 2)))), .none⟩,
   ⟨(.some 21), (.mov (.t 22)), .none⟩])
 c49_9)
abbrev c49_6 : PCode :=
 (.keep [0, 4, 5, 11, 12] (.cond (.t 12)
  c49_7
  c49_8))
abbrev c49_1 : PCode :=
 (.block 0 (.seq (.seq (.region [⟨(.some 13), (.bin .eql (.t 11) (.c (.d (.int .u8 0)))), .none⟩,
   ⟨(.some 12), (.mov (.t 13)), .none⟩])
 c49_2)
 c49_6))
abbrev c49_0 : PCode :=
 (.seq (.region [⟨(.some 10), (.faddr 0 (.t 4)), .none⟩,
   ⟨(.some 11), (.load .false 1 (.t 10) .false), .none⟩])
 c49_1)
def c49 : PFun := ⟨
 (.seq (.region [⟨(.some 4), (.box 4 (.t 1)), .none⟩,
   ⟨(.some 5), (.box 4 (.t 2)), .none⟩])
 c49_0),
 3, 102, []⟩

theorem e49 : entered Try.prog 49 = true := by kernel_rfl
theorem k49 : compFun Try.prog (fun _ => 0) 49 = some c49.er := by kernel_rfl


theorem flat_step {f : Nat → List Int} {l pre : List Int} {k : Nat} : l ++ (pre ++ (List.range k).flatMap f) ++ f k = l ++ (pre ++ (List.range (k + 1)).flatMap f) := by
  rw [List.range_succ, List.flatMap_append, List.append_assoc, List.append_assoc]
  simp
theorem putC (pw : Nat) : ∀ (e : Nat) (T : KT) (v : VT) (a : AV) (l : List Int), WT e T → VT.is e T v = true → v.fit → l.length + (putR e T v).length < 2 ^ 40 → CL (PCalls Try.prog GG) 49 [ptrAt pw, T.av, v.av] (wrF pw a l) (fun _ : AV => .tup []) (fun a => wrF pw a (l ++ putR e T v)) := by
  intro e
  induction e with
  | zero => intro T v a l h; cases h
  | succ d ih =>
  intro T v a l hw his hv hlen
  have hvl := hv.len
  refine ⟨wr_sat _ _ _ _, ?_⟩
  cases hw with
  | base _ k hk =>
    have : k = 0 ∨ k = 1 ∨ k = 2 ∨ k = 3 := by omega
    rcases this with rfl | rfl | rfl | rfl
    · rw [is0] at his
      simp only [pvq] at his
      have hz : v.of.length = 0 := by omega
      rw [put0 _ _ _ _ _ (by decide) hz] at hlen ⊢
      simp only [wrF, KT.av_eq, VT.av_eq, KT.pj, List.map_nil]
      have h1 := fun b => wrWord pw b l v.n (by omega) (by omega)
      simp only [wrF] at h1
      intro st t hL; refine pcalls_of k49 e49 (of_decide_eq_true rfl) ?_; dsimp only [c49]; generalize hQ : pfin _ _ = Q
      (refine gor hL ?_; (repeat (clear hL; intro t hL; refine gor hL ?_))); refine po_boxA hL ?_; clear hL; intro p4 t hL
      (refine gor hL ?_; (repeat (clear hL; intro t hL; refine gor hL ?_))); refine po_boxA hL ?_; clear hL; intro p5 t hL
      refine gor hL ?_; (repeat (clear hL; intro t hL; refine gor hL ?_)); (repeat (refine pseqk ?_; refine gor hL ?_; (repeat (clear hL; intro t hL; refine gor hL ?_))))
      refine gnm ?_; rw [IntWalk.u16_in v.n (by omega)]
      refine po_callK hL ((h1 _)) ?_; clear hL; intro b t hL; have fb := hL.vk b; obtain ⟨fb_r, fb_w, fb_w1, fb_c, fb_s, fb_d⟩ := id fb
      refine gor hL ?_; (repeat (clear hL; intro t hL; refine gor hL ?_)); (repeat (refine pseqk ?_; refine gor hL ?_; (repeat (clear hL; intro t hL; refine gor hL ?_))))
      rw [← hQ]
      exact pfinK b rfl (.inl rfl) hL
    · rw [is1] at his
      simp only [pvq] at his
      have hz : v.of.length = 0 := by omega
      rw [put0 _ _ _ _ _ (by decide) hz] at hlen ⊢
      simp only [wrF, KT.av_eq, VT.av_eq, KT.pj, List.map_nil]
      have h1 := fun b => wrWord pw b l v.n (by omega) (by omega)
      simp only [wrF] at h1
      intro st t hL; refine pcalls_of k49 e49 (of_decide_eq_true rfl) ?_; dsimp only [c49]; generalize hQ : pfin _ _ = Q
      (refine gor hL ?_; (repeat (clear hL; intro t hL; refine gor hL ?_))); refine po_boxA hL ?_; clear hL; intro p4 t hL
      (refine gor hL ?_; (repeat (clear hL; intro t hL; refine gor hL ?_))); refine po_boxA hL ?_; clear hL; intro p5 t hL
      refine gor hL ?_; (repeat (clear hL; intro t hL; refine gor hL ?_)); (repeat (refine pseqk ?_; refine gor hL ?_; (repeat (clear hL; intro t hL; refine gor hL ?_))))
      refine gnm ?_; rw [IntWalk.u16_in v.n (by omega)]
      refine po_callK hL ((h1 _)) ?_; clear hL; intro b t hL; have fb := hL.vk b; obtain ⟨fb_r, fb_w, fb_w1, fb_c, fb_s, fb_d⟩ := id fb
      refine gor hL ?_; (repeat (clear hL; intro t hL; refine gor hL ?_)); (repeat (refine pseqk ?_; refine gor hL ?_; (repeat (clear hL; intro t hL; refine gor hL ?_))))
      rw [← hQ]
      exact pfinK b rfl (.inl rfl) hL
    · rw [is2] at his
      simp only [pvq] at his
      rw [show putR (d + 1) (.mk 2 0 [] []) v = longB (v.n % 4294967296) from rfl] at hlen ⊢
      simp only [wrF, KT.av_eq, VT.av_eq, KT.pj, List.map_nil]
      have h1 := fun b => wrLong pw b l (v.n % 4294967296) (by omega) (by omega)
      simp only [wrF] at h1
      intro st t hL; refine pcalls_of k49 e49 (of_decide_eq_true rfl) ?_; dsimp only [c49]; generalize hQ : pfin _ _ = Q
      (refine gor hL ?_; (repeat (clear hL; intro t hL; refine gor hL ?_))); refine po_boxA hL ?_; clear hL; intro p4 t hL
      (refine gor hL ?_; (repeat (clear hL; intro t hL; refine gor hL ?_))); refine po_boxA hL ?_; clear hL; intro p5 t hL
      refine gor hL ?_; (repeat (clear hL; intro t hL; refine gor hL ?_)); (repeat (refine pseqk ?_; refine gor hL ?_; (repeat (clear hL; intro t hL; refine gor hL ?_))))
      refine gnm ?_; rw [IntKind.wrap_u32]
      refine po_callK hL ((h1 _)) ?_; clear hL; intro b t hL; have fb := hL.vk b; obtain ⟨fb_r, fb_w, fb_w1, fb_c, fb_s, fb_d⟩ := id fb
      refine gor hL ?_; (repeat (clear hL; intro t hL; refine gor hL ?_)); (repeat (refine pseqk ?_; refine gor hL ?_; (repeat (clear hL; intro t hL; refine gor hL ?_))))
      rw [← hQ]
      exact pfinK b rfl (.inl rfl) hL
    · rw [show putR (d + 1) (.mk 3 0 [] []) v = quadB (fbits v.f) from rfl] at hlen ⊢
      simp only [wrF, KT.av_eq, VT.av_eq, KT.pj, List.map_nil]
      have h1 := fun b => wrQuad pw b l (fbits v.f) (fbits_in _ hv.flt) (by omega)
      simp only [wrF] at h1
      intro st t hL; refine pcalls_of k49 e49 (of_decide_eq_true rfl) ?_; dsimp only [c49]; generalize hQ : pfin _ _ = Q
      (refine gor hL ?_; (repeat (clear hL; intro t hL; refine gor hL ?_))); refine po_boxA hL ?_; clear hL; intro p4 t hL
      (refine gor hL ?_; (repeat (clear hL; intro t hL; refine gor hL ?_))); refine po_boxA hL ?_; clear hL; intro p5 t hL
      refine gor hL ?_; (repeat (clear hL; intro t hL; refine gor hL ?_)); (repeat (refine pseqk ?_; refine gor hL ?_; (repeat (clear hL; intro t hL; refine gor hL ?_))))
      refine po_c0 (C60 v.f) ?_
      refine gor hL ?_; (repeat (clear hL; intro t hL; refine gor hL ?_)); (repeat (refine pseqk ?_; refine gor hL ?_; (repeat (clear hL; intro t hL; refine gor hL ?_))))
      refine po_callK hL ((h1 _)) ?_; clear hL; intro b t hL; have fb := hL.vk b; obtain ⟨fb_r, fb_w, fb_w1, fb_c, fb_s, fb_d⟩ := id fb
      refine gor hL ?_; (repeat (clear hL; intro t hL; refine gor hL ?_)); (repeat (refine pseqk ?_; refine gor hL ?_; (repeat (clear hL; intro t hL; refine gor hL ?_))))
      rw [← hQ]
      exact pfinK b rfl (.inl rfl) hL
  | text _ m hm =>
    rw [is4] at his
    simp only [pvq] at his
    rw [show putR (d + 1) (.mk 4 m [] []) v = textB v.s from rfl] at hlen ⊢
    simp only [wrF, KT.av_eq, VT.av_eq, KT.pj, List.map_nil]
    have h1 := fun b => wrText pw b l v.s (by omega) (by omega)
    simp only [wrF] at h1
    intro st t hL; refine pcalls_of k49 e49 (of_decide_eq_true rfl) ?_; dsimp only [c49]; generalize hQ : pfin _ _ = Q
    (refine gor hL ?_; (repeat (clear hL; intro t hL; refine gor hL ?_))); refine po_boxA hL ?_; clear hL; intro p4 t hL
    (refine gor hL ?_; (repeat (clear hL; intro t hL; refine gor hL ?_))); refine po_boxA hL ?_; clear hL; intro p5 t hL
    refine gor hL ?_; (repeat (clear hL; intro t hL; refine gor hL ?_)); (repeat (refine pseqk ?_; refine gor hL ?_; (repeat (clear hL; intro t hL; refine gor hL ?_))))
    refine po_callK hL ((h1 _)) ?_; clear hL; intro b t hL; have fb := hL.vk b; obtain ⟨fb_r, fb_w, fb_w1, fb_c, fb_s, fb_d⟩ := id fb
    refine gor hL ?_; (repeat (clear hL; intro t hL; refine gor hL ?_)); (repeat (refine pseqk ?_; refine gor hL ?_; (repeat (clear hL; intro t hL; refine gor hL ?_))))
    rw [← hQ]
    exact pfinK b rfl (.inl rfl) hL
  | seq _ m o hm ho =>
    rw [is5] at his
    simp only [pvq] at his
    have hall := List.all_eq_true.1 his.2
    have hg : [o].getD 0 (.mk 0 0 [] []) = o := rfl
    rw [put5] at hlen ⊢
    simp only [wrF, KT.av_eq, VT.av_eq, KT.pj, List.map_nil, List.map_cons]
    have h1 := fun b => wrWord pw b l v.of.length (by omega) (by omega)
    simp only [wrF] at h1
    intro st t hL; refine pcalls_of k49 e49 (of_decide_eq_true rfl) ?_; dsimp only [c49]; generalize hQ : pfin _ _ = Q
    (refine gor hL ?_; (repeat (clear hL; intro t hL; refine gor hL ?_))); refine po_boxA hL ?_; clear hL; intro p4 t hL
    (refine gor hL ?_; (repeat (clear hL; intro t hL; refine gor hL ?_))); refine po_boxA hL ?_; clear hL; intro p5 t hL
    refine gor hL ?_; (repeat (clear hL; intro t hL; refine gor hL ?_)); (repeat (refine pseqk ?_; refine gor hL ?_; (repeat (clear hL; intro t hL; refine gor hL ?_))))
    refine gnm ?_; rw [IntWalk.u16_in (v.of.length : Int) (by omega)]
    refine po_callK hL ((h1 _)) ?_; clear hL; intro c t hL; have fc := hL.vk c; obtain ⟨fc_r, fc_w, fc_w1, fc_c, fc_s, fc_d⟩ := id fc
    refine gor hL ?_; (repeat (clear hL; intro t hL; refine gor hL ?_)); (repeat (refine pseqk ?_; refine gor hL ?_; (repeat (clear hL; intro t hL; refine gor hL ?_))))
    (apply prangeJ (v.of.length) (by omega) (fun k t => ∃ b, Lay st [.box pw [b], .vec b (rowsB (l ++ (wordB v.of.length ++ (List.range k).flatMap (fun i => putR d o (v.of.getD i VT.zero))))) 1, .box p5 [.d (.int .i64 v.n), .d (.flt .f64 v.f), .d (.str v.s), .d (.sl (v.of.map VT.row))], .box p4 [.d (.int .u8 5), .d (.int .i64 m), .d (.sl []), .d (.sl [o.row])]] t)); (· exact trimA); (· exact fun _ => rfl)
    · exact ⟨_, by simp only [List.range_zero, List.flatMap_nil, List.append_nil]; exact hL.pk⟩
    · rintro t ⟨b, hL⟩
      refine gor hL ?_; (repeat (clear hL; intro t hL; refine gor hL ?_)); (repeat (refine pseqk ?_; refine gor hL ?_; (repeat (clear hL; intro t hL; refine gor hL ?_))))
      rw [← hQ]
      exact pfinK b rfl (.inl rfl) hL
    · rintro k hk t ⟨b, hL⟩
      obtain ⟨x, hx, hxm⟩ := elem_at hk
      have e1 : v.of.getD k VT.zero = x := by rw [List.getD_eq_getElem?_getD, hx]; rfl
      have hpl := pre_len (f := (fun i => putR d o (v.of.getD i VT.zero))) (k := k + 1) (n := v.of.length) hk
      rw [List.range_succ, List.flatMap_append, List.length_append] at hpl
      simp only [List.flatMap_cons, List.flatMap_nil, List.append_nil, e1] at hpl
      simp only [List.length_append] at hlen
      have hi := ih o x b (l ++ (wordB v.of.length ++ (List.range k).flatMap (fun i => putR d o (v.of.getD i VT.zero)))) ho (hall x hxm) (hv.part hxm) (by simp only [List.length_append]; omega)
      simp only [wrF, KT.av_eq, VT.av_eq] at hi
      refine pblock ?_
      (refine gor hL ?_; (repeat (clear hL; intro t hL; refine gor hL ?_))); (with_reducible refine po_allocL hL rfl ?_); clear hL; intro p7 t hL
      refine gor hL ?_; (repeat (clear hL; intro t hL; refine gor hL ?_))
      refine po_iaddr0 (l := [o]) (f := KT.row) rfl (KT.row_len o) ?_
      refine gor hL ?_; (repeat (clear hL; intro t hL; refine gor hL ?_))
      refine po_callK hL ((hi)) ?_; clear hL; intro b' t hL; have fb' := hL.vk b'; obtain ⟨fb'_r, fb'_w, fb'_w1, fb'_c, fb'_s, fb'_d⟩ := id fb'
      refine gor hL ?_; (repeat (clear hL; intro t hL; refine gor hL ?_))
      have hst := flat_step (f := (fun i => putR d o (v.of.getD i VT.zero))) (l := l) (pre := wordB v.of.length) (k := k)
      simp only [e1] at hst
      rw [hst] at hL
      refine ⟨⟨b', hL.pk⟩, tr2⟩
  | reco _ k n o hk hl hn hf ho =>
    rcases hk with rfl | rfl
    · rw [is6] at his
      simp only [pvq] at his
      rw [put6] at hlen ⊢
      simp only [wrF, KT.av_eq, VT.av_eq, KT.pj]
      intro st t hL; refine pcalls_of k49 e49 (of_decide_eq_true rfl) ?_; dsimp only [c49]; generalize hQ : pfin _ _ = Q
      (refine gor hL ?_; (repeat (clear hL; intro t hL; refine gor hL ?_))); refine po_boxA hL ?_; clear hL; intro p4 t hL
      (refine gor hL ?_; (repeat (clear hL; intro t hL; refine gor hL ?_))); refine po_boxA hL ?_; clear hL; intro p5 t hL
      refine gor hL ?_; (repeat (clear hL; intro t hL; refine gor hL ?_)); (repeat (refine pseqk ?_; refine gor hL ?_; (repeat (clear hL; intro t hL; refine gor hL ?_))))
      (apply prangeJ (v.of.length) (by omega) (fun k t => ∃ b, Lay st [.box pw [b], .vec b (rowsB (l ++ ([] ++ (List.range k).flatMap (fun i => putR d (o.getD i (.mk 0 0 [] [])) (v.of.getD i VT.zero))))) 1, .box p5 [.d (.int .i64 v.n), .d (.flt .f64 v.f), .d (.str v.s), .d (.sl (v.of.map VT.row))], .box p4 [.d (.int .u8 6), .d (.int .i64 0), .d (.sl (n.map fun s => [.str s])), .d (.sl (o.map KT.row))]] t)); (· exact trimA); (· exact fun _ => rfl)
      · exact ⟨_, by simp only [List.range_zero, List.flatMap_nil, List.append_nil]; exact hL.pk⟩
      · rintro t ⟨b, hL⟩
        refine gor hL ?_; (repeat (clear hL; intro t hL; refine gor hL ?_)); (repeat (refine pseqk ?_; refine gor hL ?_; (repeat (clear hL; intro t hL; refine gor hL ?_))))
        rw [← hQ]
        exact pfinK b rfl (.inl rfl) hL
      · rintro k hk t ⟨b, hL⟩
        obtain ⟨x, hx, hxm⟩ := elem_at hk
        have e1 : v.of.getD k VT.zero = x := by rw [List.getD_eq_getElem?_getD, hx]; rfl
        obtain ⟨y, hy, hym⟩ := elem_at (l := o) (k := k) (by omega)
        have e2 : o.getD k (.mk 0 0 [] []) = y := by rw [List.getD_eq_getElem?_getD, hy]; rfl
        have hpl := pre_len (f := (fun i => putR d (o.getD i (.mk 0 0 [] [])) (v.of.getD i VT.zero))) (k := k + 1) (n := v.of.length) hk
        rw [List.range_succ, List.flatMap_append, List.length_append] at hpl
        simp only [List.flatMap_cons, List.flatMap_nil, List.append_nil, e1, e2] at hpl
        simp only [List.length_append] at hlen
        have hi := ih y x b (l ++ ([] ++ (List.range k).flatMap (fun i => putR d (o.getD i (.mk 0 0 [] [])) (v.of.getD i VT.zero)))) (ho y hym) (allZip_get his.2 k y x hy hx) (hv.part hxm) (by simp only [List.length_append]; omega)
        simp only [wrF, KT.av_eq, VT.av_eq] at hi
        refine pblock ?_
        (refine gor hL ?_; (repeat (clear hL; intro t hL; refine gor hL ?_))); (with_reducible refine po_allocL hL rfl ?_); clear hL; intro p9 t hL
        refine gor hL ?_; (repeat (clear hL; intro t hL; refine gor hL ?_))
        refine po_callK hL ((hi)) ?_; clear hL; intro b' t hL; have fb' := hL.vk b'; obtain ⟨fb'_r, fb'_w, fb'_w1, fb'_c, fb'_s, fb'_d⟩ := id fb'
        refine gor hL ?_; (repeat (clear hL; intro t hL; refine gor hL ?_))
        have hst := flat_step (f := (fun i => putR d (o.getD i (.mk 0 0 [] [])) (v.of.getD i VT.zero))) (l := l) (pre := []) (k := k)
        simp only [e1, e2] at hst
        rw [hst] at hL
        refine ⟨⟨b', hL.pk⟩, tr2⟩
    · rw [is8] at his
      simp only [pvq] at his
      obtain ⟨k, hk⟩ : ∃ k : Nat, v.n = k := ⟨v.n.toNat, by omega⟩
      obtain ⟨y, hy, hym⟩ := elem_at (l := o) (k := k) (by omega)
      obtain ⟨x, hx, hxm⟩ := elem_at (l := v.of) (k := 0) (by omega)
      have e1 : v.of.getD 0 VT.zero = x := by rw [List.getD_eq_getElem?_getD, hx]; rfl
      have e2 : o.getD v.n.toNat (.mk 0 0 [] []) = y := by rw [hk, Int.toNat_natCast, List.getD_eq_getElem?_getD, hy]; rfl
      have hix := his.2
      rw [e1, e2] at hix
      have hp8 : putR (d + 1) (.mk 8 0 n o) v = wordB v.n ++ putR d y x := by
        rw [put8, his.1.2.2]
        simp only [List.range_succ, List.range_zero, List.nil_append, List.flatMap_cons, List.flatMap_nil, List.append_nil, e1, e2]
      rw [hp8] at hlen ⊢
      rw [List.length_append] at hlen
      have h1 := fun b => wrWord pw b l v.n (by omega) (by omega)
      have hi := fun b => ih y x b (l ++ wordB v.n) (ho y hym) hix (hv.part hxm) (by rw [List.length_append]; omega)
      simp only [wrF, KT.av_eq, VT.av_eq, KT.pj] at h1 hi ⊢
      rw [List.append_assoc] at hi
      intro st t hL; refine pcalls_of k49 e49 (of_decide_eq_true rfl) ?_; dsimp only [c49]; generalize hQ : pfin _ _ = Q
      (refine gor hL ?_; (repeat (clear hL; intro t hL; refine gor hL ?_))); refine po_boxA hL ?_; clear hL; intro p4 t hL
      (refine gor hL ?_; (repeat (clear hL; intro t hL; refine gor hL ?_))); refine po_boxA hL ?_; clear hL; intro p5 t hL
      refine gor hL ?_; (repeat (clear hL; intro t hL; refine gor hL ?_)); (repeat (refine pseqk ?_; refine gor hL ?_; (repeat (clear hL; intro t hL; refine gor hL ?_))))
      refine gnm ?_; rw [IntWalk.u16_in v.n (by omega)]
      refine po_callK hL ((h1 _)) ?_; clear hL; intro c t hL; have fc := hL.vk c; obtain ⟨fc_r, fc_w, fc_w1, fc_c, fc_s, fc_d⟩ := id fc
      refine gor hL ?_; (repeat (clear hL; intro t hL; refine gor hL ?_)); (repeat (refine pseqk ?_; refine gor hL ?_; (repeat (clear hL; intro t hL; refine gor hL ?_))))
      refine gnm ?_; rw [hk]
      refine gor hL ?_; (repeat (clear hL; intro t hL; refine gor hL ?_))
      refine po_callK hL ((hi _)) ?_; clear hL; intro c' t hL; have fc' := hL.vk c'; obtain ⟨fc'_r, fc'_w, fc'_w1, fc'_c, fc'_s, fc'_d⟩ := id fc'
      refine gor hL ?_; (repeat (clear hL; intro t hL; refine gor hL ?_)); (repeat (refine pseqk ?_; refine gor hL ?_; (repeat (clear hL; intro t hL; refine gor hL ?_))))
      rw [← hQ]
      exact pfinK c' rfl (.inl rfl) hL
  | enum _ n hl hf =>
    have hf1 := hf.1
    rw [is7] at his
    simp only [pvq] at his
    have hz : v.of.length = 0 := by omega
    rw [put0 _ _ _ _ _ (by decide) hz] at hlen ⊢
    simp only [wrF, KT.av_eq, VT.av_eq, KT.pj, List.map_nil]
    have h1 := fun b => wrWord pw b l v.n (by omega) (by omega)
    simp only [wrF] at h1
    intro st t hL; refine pcalls_of k49 e49 (of_decide_eq_true rfl) ?_; dsimp only [c49]; generalize hQ : pfin _ _ = Q
    (refine gor hL ?_; (repeat (clear hL; intro t hL; refine gor hL ?_))); refine po_boxA hL ?_; clear hL; intro p4 t hL
    (refine gor hL ?_; (repeat (clear hL; intro t hL; refine gor hL ?_))); refine po_boxA hL ?_; clear hL; intro p5 t hL
    refine gor hL ?_; (repeat (clear hL; intro t hL; refine gor hL ?_)); (repeat (refine pseqk ?_; refine gor hL ?_; (repeat (clear hL; intro t hL; refine gor hL ?_))))
    refine gnm ?_; rw [IntWalk.u16_in v.n (by omega)]
    refine po_callK hL ((h1 _)) ?_; clear hL; intro b t hL; have fb := hL.vk b; obtain ⟨fb_r, fb_w, fb_w1, fb_c, fb_s, fb_d⟩ := id fb
    refine gor hL ?_; (repeat (clear hL; intro t hL; refine gor hL ?_)); (repeat (refine pseqk ?_; refine gor hL ?_; (repeat (clear hL; intro t hL; refine gor hL ?_))))
    rw [← hQ]
    exact pfinK b rfl (.inl rfl) hL
end Go.Pv
