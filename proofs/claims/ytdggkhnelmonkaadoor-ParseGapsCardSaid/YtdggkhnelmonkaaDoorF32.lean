/- Functions of the program, by value. No condition. -/
import Derived.Test.YtdggkhnelmonkaaDoorF31
import Derived.Test.YtdggkhnelmonkaaDoorF35
namespace Go.Pv
open Go.Proofs
set_option maxRecDepth 100000
set_option maxHeartbeats 8000000
/-- prompter/prompterlaw06.ParseGaps -/
abbrev c7_2 : PCode :=
 (.seq (.region [⟨(.some 8), (.mov (.c (.d (.bool .false)))), .none⟩])
 .ret)
abbrev c7_1 : PCode :=
 (.cond (.t 22)
  c7_2
  .skip)
abbrev c7_5 : PCode :=
 (.seq (.region [⟨(.some 8), (.mov (.c (.d (.bool .true)))), .none⟩])
 .ret)
abbrev c7_4 : PCode :=
 (.cond (.t 35)
  c7_5
  .skip)
abbrev c7_14 : PCode :=
 (.exit 1)
abbrev c7_13 : PCode :=
 (.cond (.t 68)
  c7_14
  .skip)
abbrev c7_19 : PCode :=
 (.seq (.region [⟨(.some 8), (.mov (.c (.d (.bool .false)))), .none⟩])
 .ret)
abbrev c7_18 : PCode :=
 (.cond (.t 89)
  c7_19
  .skip)
abbrev c7_17 : PCode :=
 (.keep [1, 2, 15, 17, 18, 20, 49, 50, 51] (.seq (.region [⟨(.some 81), (.mov (.t 17)), .none⟩,
   ⟨(.some 82), (.mov (.t 20)), .none⟩,
   ⟨(.some 83), (.bin .neq (.t 81) (.t 82)), .none⟩,
   ⟨(.some 84), (.mov (.t 83)), .none⟩,
   ⟨(.some 85), (.load .true 6 (.t 15) .false), (.some (84, .false))⟩,
   ⟨(.some 86), (.load .true 6 (.t 18) .false), (.some (84, .false))⟩,
   ⟨(.some 87), (.call0 20 [(.t 85), (.t 86)]), (.some (84, .false))⟩,
   ⟨(.some 88), (.not (.t 87)), (.some (84, .false))⟩,
   ⟨(.some 89), (.pick (.t 84) (.c (.d (.bool .true))) (.t 88)), .none⟩])
 c7_18))
abbrev c7_16 : PCode :=
 (.keep [1, 2, 14, 15, 17, 49, 50, 51] (.seq (.region [⟨(.some 76), (.mov (.t 14)), .none⟩,
   ⟨(.some 77), (.call0 19 [(.t 76)]), .none⟩,
   ⟨(.some 75), (.mov (.t 77)), .none⟩,
   ⟨(.some 78), (.ext (.t 75) 0), .none⟩,
   ⟨(.some 79), (.ext (.t 75) 1), .none⟩,
   ⟨(.some 80), (.ext (.t 75) 2), .none⟩,
   ⟨(.some 18), (.alloc [(.d (.str (bs []))), (.d (.int .i64 0)), (.d (.int .i64 0)), (.full []), (.full []), (.full [])]), .none⟩,
   ⟨.none, (.store 6 (.t 18) (.t 78)), .none⟩,
   ⟨(.some 19), (.mov (.t 79)), .none⟩,
   ⟨(.some 20), (.mov (.t 80)), .none⟩])
 c7_17))
abbrev c7_15 : PCode :=
 (.keep [1, 2, 13, 14, 49, 50, 51] (.seq (.region [⟨(.some 70), (.mov (.t 13)), .none⟩,
   ⟨(.some 71), (.call0 19 [(.t 70)]), .none⟩,
   ⟨(.some 69), (.mov (.t 71)), .none⟩,
   ⟨(.some 72), (.ext (.t 69) 0), .none⟩,
   ⟨(.some 73), (.ext (.t 69) 1), .none⟩,
   ⟨(.some 74), (.ext (.t 69) 2), .none⟩,
   ⟨(.some 15), (.alloc [(.d (.str (bs []))), (.d (.int .i64 0)), (.d (.int .i64 0)), (.full []), (.full []), (.full [])]), .none⟩,
   ⟨.none, (.store 6 (.t 15) (.t 72)), .none⟩,
   ⟨(.some 16), (.mov (.t 73)), .none⟩,
   ⟨(.some 17), (.mov (.t 74)), .none⟩])
 c7_16))
abbrev c7_12 : PCode :=
 (.keep [1, 2, 13, 14, 49, 50, 51] (.seq (.seq (.region [⟨(.some 61), (.mov (.t 13)), .none⟩,
   ⟨(.some 62), (.lenS (.t 61)), .none⟩,
   ⟨(.some 63), (.bin .gtr (.t 62) (.c (.d (.int .i64 4000)))), .none⟩,
   ⟨(.some 64), (.mov (.t 63)), .none⟩,
   ⟨(.some 65), (.mov (.t 14)), (.some (64, .false))⟩,
   ⟨(.some 66), (.lenS (.t 65)), (.some (64, .false))⟩,
   ⟨(.some 67), (.bin .gtr (.t 66) (.c (.d (.int .i64 4000)))), (.some (64, .false))⟩,
   ⟨(.some 68), (.pick (.t 64) (.c (.d (.bool .true))) (.t 67)), .none⟩])
 c7_13)
 c7_15))
abbrev c7_11 : PCode :=
 (.keep [1, 2, 12, 49, 50, 51] (.seq (.region [⟨(.some 55), (.mov (.t 12)), .none⟩,
   ⟨(.some 56), (.mov (.t 1)), .none⟩,
   ⟨(.some 57), (.call0 17 [(.t 55), (.t 56)]), .none⟩,
   ⟨(.some 58), (.mov (.t 12)), .none⟩,
   ⟨(.some 59), (.mov (.t 2)), .none⟩,
   ⟨(.some 60), (.call0 17 [(.t 58), (.t 59)]), .none⟩,
   ⟨(.some 13), (.mov (.t 57)), .none⟩,
   ⟨(.some 14), (.mov (.t 60)), .none⟩])
 c7_12))
abbrev c7_10 : PCode :=
 (.block 1 (.seq (.region [⟨(.some 53), (.iaddr 1 (.t 49) (.t 51)), .none⟩,
   ⟨(.some 54), (.load .false 1 (.t 53) .false), .none⟩,
   ⟨(.some 12), (.mov (.t 54)), .none⟩])
 c7_11))
abbrev c7_9 : PCode :=
 (.keep [1, 2, 49, 50, 51] (.block 0 (.loop (.some [51, 1, 2, 49, 50]) (.seq (.region [⟨(.some 52), (.bin .lss (.t 51) (.t 50)), .none⟩])
 (.seq (.cond (.t 52)
  .skip
  (.exit 0))
 (.seq c7_10
 (.region [⟨(.some 90), (.bin .add (.t 51) (.c (.d (.int .i64 1)))), .none⟩,
   ⟨(.some 51), (.mov (.t 90)), .none⟩])))))))
abbrev c7_20 : PCode :=
 (.seq (.region [⟨(.some 8), (.mov (.c (.d (.bool .true)))), .none⟩])
 .ret)
abbrev c7_8 : PCode :=
 (.keep [1, 2, 9, 10] (.seq (.seq (.region [⟨(.some 45), (.mov (.t 9)), .none⟩,
   ⟨(.some 46), (.mov (.t 9)), .none⟩,
   ⟨(.some 47), (.mov (.t 10)), .none⟩,
   ⟨(.some 48), (.slc 1 (.t 46) .none (.some (.t 47))), .none⟩,
   ⟨(.some 49), (.bsl 1 [(.t 45), (.t 48)]), .none⟩,
   ⟨(.some 50), (.len (.t 49)), .none⟩,
   ⟨(.some 51), (.mov (.c (.d (.int .i64 0)))), .none⟩])
 c7_9)
 c7_20))
abbrev c7_7 : PCode :=
 (.keep [1, 2, 3, 9] (.seq (.region [⟨(.some 39), (.mov (.t 3)), .none⟩,
   ⟨(.some 40), (.cvt .i64 (.t 39)), .none⟩,
   ⟨(.some 41), (.mov (.t 9)), .none⟩,
   ⟨(.some 42), (.len (.t 41)), .none⟩,
   ⟨(.some 43), (.bin .add (.t 42) (.c (.d (.int .i64 1)))), .none⟩,
   ⟨(.some 44), (.bin .rem (.t 40) (.t 43)), .none⟩,
   ⟨(.some 10), (.mov (.t 44)), .none⟩])
 c7_8))
abbrev c7_6 : PCode :=
 (.keep [1, 2, 3, 4] (.seq (.region [⟨(.some 36), (.load .true 4 (.t 4) .false), .none⟩,
   ⟨(.some 37), (.call0 15 [(.t 36)]), .none⟩,
   ⟨(.some 38), (.call0 16 [(.t 37)]), .none⟩,
   ⟨(.some 9), (.mov (.t 38)), .none⟩])
 c7_7))
abbrev c7_3 : PCode :=
 (.keep [1, 2, 3, 4] (.seq (.seq (.region [⟨(.some 23), (.load .true 4 (.t 4) .false), .none⟩,
   ⟨(.some 24), (.call0 14 [(.t 23)]), .none⟩,
   ⟨(.some 25), (.not (.t 24)), .none⟩,
   ⟨(.some 26), (.mov (.t 25)), .none⟩,
   ⟨(.some 27), (.mov (.t 1)), (.some (26, .false))⟩,
   ⟨(.some 28), (.len (.t 27)), (.some (26, .false))⟩,
   ⟨(.some 29), (.bin .gtr (.t 28) (.c (.d (.int .i64 50)))), (.some (26, .false))⟩,
   ⟨(.some 30), (.pick (.t 26) (.c (.d (.bool .true))) (.t 29)), .none⟩,
   ⟨(.some 31), (.mov (.t 30)), .none⟩,
   ⟨(.some 32), (.mov (.t 2)), (.some (31, .false))⟩,
   ⟨(.some 33), (.len (.t 32)), (.some (31, .false))⟩,
   ⟨(.some 34), (.bin .gtr (.t 33) (.c (.d (.int .i64 50)))), (.some (31, .false))⟩,
   ⟨(.some 35), (.pick (.t 31) (.c (.d (.bool .true))) (.t 34)), .none⟩])
 c7_4)
 c7_6))
abbrev c7_0 : PCode :=
 (.seq (.seq (.region [⟨(.some 21), (.call0 13 []), .none⟩,
   ⟨(.some 22), (.not (.t 21)), .none⟩])
 c7_1)
 c7_3)
def c7 : PFun := ⟨
 (.seq (.region [⟨(.some 4), (.box 4 (.t 0)), .none⟩,
   ⟨(.some 8), (.mov (.c (.d (.bool .false)))), .none⟩])
 c7_0),
 4, 91, [(.tmp 8)]⟩

theorem e7 : entered Tryd.prog 7 = true := by kernel_rfl
theorem k7 : compFun Tryd.prog (fun _ => 0) 7 = some c7.er := by kernel_rfl

theorem tx_small (l : List Tk) (h : ∀ x ∈ l, goodT x) (gaps : List Int) (hl : l.length ≤ 20000) : (texM (TX l) gaps (TX l).length).size ≤ 720000 := by
  have := texM_small (TX l) gaps (fun x hx => by
    obtain ⟨y, hy, rfl⟩ := List.mem_map.1 hx
    exact (h y hy).2) (TX l).length (Nat.le_refl _)
  rw [List.length_map] at this ⊢; omega
theorem ev_to {G : Glob} {s : Slots} {a b : Arg} {rows : List (List Dat)} {sz k : Nat} (ha : a.ev G s = .d (.sl rows)) (hb : b.ev G s = .d (.int .i64 k)) (hk : k ≤ rows.length) : ev G s (.slc sz a none (some b)) = some (.d (.sl (rows.take k))) := by
  simp only [ev, ha, hb, AV.rows?, Option.map_some, Option.map_none, bnds, bnd, Option.bind_some]
  rw [if_pos ⟨by omega, by omega⟩]
  simp only [Option.bind_some, Int.toNat_natCast, true_and, true_or, if_true, List.drop_zero]
  split
  · rename_i e; rw [e, List.take_length]
  · rfl
theorem ev_from {G : Glob} {s : Slots} {a b : Arg} {rows : List (List Dat)} {sz k : Nat} (ha : a.ev G s = .d (.sl rows)) (hb : b.ev G s = .d (.int .i64 k)) (hk : k ≤ rows.length) (hs : ∀ r ∈ rows, r.length = sz) : ev G s (.slc sz a (some b) none) = some (.d (.sl (rows.drop k))) := by
  simp only [ev, ha, hb, AV.rows?, Option.map_some, Option.map_none, bnds, bnd, Option.bind_some]
  rw [if_pos ⟨by omega, by omega⟩]
  simp only [Option.bind_some, Int.toNat_natCast, and_true]
  split
  · rename_i e; rw [e, List.drop_zero]
  · rw [if_pos (.inr (List.all_eq_true.2 fun r hr => by simpa using hs r hr)), List.take_length]
theorem C7 (s : Sm) (hs : s.fit) (a b : List Int) (hal : a.length ≤ maxLen) (hbl : b.length ≤ maxLen) (ha : ∀ x ∈ a, 0 ≤ x ∧ x ≤ 255) (hb : ∀ x ∈ b, 0 ≤ x ∧ x ≤ 255) (cut : Int) (hc : 0 ≤ cut ∧ cut ≤ 65535) :
    Pure (PCalls Tryd.prog GK) 7 [s.av, .d (.sl (a.map fun n => [.int .u8 n])), .d (.sl (b.map fun n => [.int .u8 n])), .d (.int .u16 cut)] (b2 true) := by
  have hT := sm_pt hs
  have hlen := sm_len hs
  have hC16 := C16 hT (by omega)
  have hC15 := C15 s hs
  have hlg := C14 s hs
  generalize hTT : s.tb = T at *
  have hTl : (TX T.toks).length = T.toks.length := List.length_map _
  have hgood := good_table hT
  intro st; refine pcalls_of k7 e7 (of_decide_eq_true rfl) ?_; dsimp only [c7]; refine pstartL ?_; intro t hL; generalize hQ : pfin _ _ = Q
  (refine gor hL ?_; (repeat (clear hL; intro t hL; refine gor hL ?_))); refine po_boxA hL ?_; clear hL; intro p4 t hL
  refine gor hL ?_; (repeat (clear hL; intro t hL; refine gor hL ?_)); (repeat (refine pseqk ?_; refine gor hL ?_; (repeat (clear hL; intro t hL; refine gor hL ?_))))
  refine po_c0 (C13) ?_
  refine gor hL ?_; (repeat (clear hL; intro t hL; refine gor hL ?_)); (repeat (refine pseqk ?_; refine gor hL ?_; (repeat (clear hL; intro t hL; refine gor hL ?_))))
  refine po_c0 (hlg) ?_
  refine gor hL ?_; (repeat (clear hL; intro t hL; refine gor hL ?_))
  cases hlt : s.light with
  | false =>
    rw [hlt] at *
    refine gor hL ?_; (repeat (clear hL; intro t hL; refine gor hL ?_))
    rw [← hQ]
    exact pfin_pure rfl hL.le
  | true =>
    rw [hlt] at *
    refine gor hL ?_; (repeat (clear hL; intro t hL; refine gor hL ?_))
    by_cases h50 : a.length > 50
    · refine gnm ?_; rw [decide_eq_true (show (a.length : Int) > 50 by omega)]
      refine gor hL ?_; (repeat (clear hL; intro t hL; refine gor hL ?_))
      rw [← hQ]
      exact pfin_pure rfl hL.le
    refine gnm ?_; rw [decide_eq_false (show ¬ (a.length : Int) > 50 by omega)]
    refine gor hL ?_; (repeat (clear hL; intro t hL; refine gor hL ?_))
    by_cases h51 : b.length > 50
    · refine gnm ?_; rw [decide_eq_true (show (b.length : Int) > 50 by omega)]
      refine gor hL ?_; (repeat (clear hL; intro t hL; refine gor hL ?_))
      rw [← hQ]
      exact pfin_pure rfl hL.le
    refine gnm ?_; rw [decide_eq_false (show ¬ (b.length : Int) > 50 by omega)]
    refine gor hL ?_; (repeat (clear hL; intro t hL; refine gor hL ?_))
    refine po_c0 (hC15) ?_
    refine gor hL ?_; (repeat (clear hL; intro t hL; refine gor hL ?_))
    refine po_c0 (hC16) ?_
    refine gor hL ?_; (repeat (clear hL; intro t hL; refine gor hL ?_))
    obtain ⟨k, hk, hkl⟩ : ∃ k : Nat, cut.tmod (IntKind.i64.wrap (((TX T.toks).length : Int) + 1)) = (k : Int) ∧ k ≤ T.toks.length := by
      rw [IntWalk.i64_in _ (by omega), Int.tmod_eq_emod_of_nonneg hc.1, hTl]
      refine ⟨(cut % ((T.toks.length : Int) + 1)).toNat, ?_, ?_⟩
      · have := Int.emod_nonneg cut (show ((T.toks.length : Int) + 1) ≠ 0 by omega); omega
      · have := Int.emod_lt_of_pos cut (show 0 < ((T.toks.length : Int) + 1) by omega)
        have := Int.emod_nonneg cut (show ((T.toks.length : Int) + 1) ≠ 0 by omega); omega
    rw [IntWalk.i64_in (((TX T.toks).length : Int) + 1) (by omega)] at hk
    refine gnm ?_; rw [IntWalk.i64_in cut (by omega), IntWalk.i64_in (((TX T.toks).length : Int) + 1) (by omega)]
    refine po rfl (ev_rem (x := cut) (y := ((TX T.toks).length : Int) + 1) rfl rfl (by omega)) ?_
    refine gnm ?_; rw [hk]
    refine gor hL ?_; (repeat (clear hL; intro t hL; refine gor hL ?_))
    refine po rfl (ev_to (rows := srows (TX T.toks)) (k := k) rfl rfl (by rw [len_srows, hTl]; exact hkl)) ?_
    rw [show (srows (TX T.toks)).take k = srows ((TX T.toks).take k) from (List.map_take ..).symm]
    refine gor hL ?_; (repeat (clear hL; intro t hL; refine gor hL ?_))
    (apply prangeJ (2) (by omega) (fun i t => Lay st [] t)); (· exact trimA); (· exact fun _ => rfl)
    · exact hL.pk
    · intro t hL
      refine gor hL ?_; (repeat (clear hL; intro t hL; refine gor hL ?_))
      rw [← hQ]
      exact pfin_pure rfl hL.le
    · intro i hi t hL
      obtain ⟨y, hy, hym⟩ := elem_at (l := [TX T.toks, (TX T.toks).take k]) (k := i) hi
      obtain ⟨X, rfl, hXg, hXl⟩ : ∃ X : List Tk, y = TX X ∧ (∀ x ∈ X, goodT x) ∧ X.length ≤ 20000 := by
        rcases List.mem_cons.1 hym with rfl | hym
        · exact ⟨T.toks, rfl, hgood, hlen⟩
        · rw [List.mem_singleton.1 hym]
          exact ⟨T.toks.take k, List.map_take.symm, fun x hx => hgood x (List.mem_of_mem_take hx), by rw [List.length_take]; omega⟩
      have hXt : (TX X).length = X.length := List.length_map _
      have sa := tx_small X hXg a hXl
      have sb := tx_small X hXg b hXl
      have hp : (texM (TX X) a (TX X).length).size ≤ 4000 → (texM (TX X) b (TX X).length).size ≤ 4000 → (parseM (texM (TX X) a (TX X).length)).1 = (parseM (texM (TX X) b (TX X).length)).1 ∧ (parseM (texM (TX X) a (TX X).length)).2.2 = (parseM (texM (TX X) b (TX X).length)).2.2 := by
        rw [hXt]; exact parse_gaps hXg a b
      have hA := C17 (TX X) a ha (by omega) (by omega) (by omega)
      have hB := C17 (TX X) b hb (by omega) (by omega) (by omega)
      generalize TX X = Y at *
      generalize texM Y a Y.length = A at *
      generalize texM Y b Y.length = B at *
      have hPA := C19 A (by omega)
      have hPB := C19 B (by omega)
      have hfA := parseM_fit A
      refine pblock ?_
      refine gor hL ?_; (repeat (clear hL; intro t hL; refine gor hL ?_))
      refine po_iaddrM (l := [TX T.toks, (TX T.toks).take k]) (f := fun l => [Dat.sl (srows l)]) rfl rfl rfl hy rfl ?_
      refine gor hL ?_; (repeat (clear hL; intro t hL; refine gor hL ?_))
      refine po_c0 (hA) ?_
      refine gor hL ?_; (repeat (clear hL; intro t hL; refine gor hL ?_))
      refine po_c0 (hB) ?_
      refine gor hL ?_; (repeat (clear hL; intro t hL; refine gor hL ?_))
      by_cases h4 : A.size > 4000
      · refine gnm ?_; rw [decide_eq_true (show (A.size : Int) > 4000 by omega)]
        refine gor hL ?_; (repeat (clear hL; intro t hL; refine gor hL ?_))
        exact ⟨hL.pk, trivial⟩
      refine gnm ?_; rw [decide_eq_false (show ¬ (A.size : Int) > 4000 by omega)]
      refine gor hL ?_; (repeat (clear hL; intro t hL; refine gor hL ?_))
      by_cases h5 : B.size > 4000
      · refine gnm ?_; rw [decide_eq_true (show (B.size : Int) > 4000 by omega)]
        refine gor hL ?_; (repeat (clear hL; intro t hL; refine gor hL ?_))
        exact ⟨hL.pk, trivial⟩
      refine gnm ?_; rw [decide_eq_false (show ¬ (B.size : Int) > 4000 by omega)]
      refine gor hL ?_; (repeat (clear hL; intro t hL; refine gor hL ?_))
      obtain ⟨e1, e2⟩ := hp (by omega) (by omega)
      unfold parseA at hPA hPB
      rw [← e1, ← e2] at hPB
      generalize (parseM A).1 = U at *
      generalize (parseM A).2.2 = e at *
      have hCa := C20 U U hfA
      rw [alike_refl] at hCa
      refine po_c0 (hPA) ?_
      refine gor hL ?_; (repeat (clear hL; intro t hL; refine gor hL ?_))
      (refine gor hL ?_; (repeat (clear hL; intro t hL; refine gor hL ?_))); (with_reducible refine po_allocL hL rfl ?_); clear hL; intro p15 t hL
      refine gor hL ?_; (repeat (clear hL; intro t hL; refine gor hL ?_))
      refine po_c0 (hPB) ?_
      refine gor hL ?_; (repeat (clear hL; intro t hL; refine gor hL ?_))
      (refine gor hL ?_; (repeat (clear hL; intro t hL; refine gor hL ?_))); (with_reducible refine po_allocL hL rfl ?_); clear hL; intro p18 t hL
      refine gor hL ?_; (repeat (clear hL; intro t hL; refine gor hL ?_))
      refine po_c0 (hCa) ?_
      refine gor hL ?_; (repeat (clear hL; intro t hL; refine gor hL ?_))
      exact ⟨hL.pk, trivial⟩
end Go.Pv
