/- Functions of the program, by value. No condition. -/
import Derived.Test.YtmcdhendjlijhaaV6
namespace Go.Pv
open Go.Proofs
set_option maxRecDepth 100000
set_option maxHeartbeats 4000000

/-- prompter/prompterlaw08.Turned -/
abbrev c28_6 : PCode :=
 (.keep [12, 13] (.seq (.region [⟨(.some 54), (.load .true 4 (.t 13) .false), .none⟩,
   ⟨.none, (.store 4 (.t 12) (.t 54)), .none⟩])
 .ret))
abbrev c28_5 : PCode :=
 (.keep [1, 2, 3, 4, 5, 6, 12, 13, 14] (.seq (.region [⟨(.some 38), (.faddr 3 (.t 13)), .none⟩,
   ⟨(.some 39), (.load .false 1 (.t 38) .false), .none⟩,
   ⟨(.some 40), (.mov (.t 14)), .none⟩,
   ⟨(.some 41), (.faddr 3 (.t 6)), .none⟩,
   ⟨(.some 42), (.load .false 1 (.t 41) .false), .none⟩,
   ⟨(.some 43), (.mov (.t 14)), .none⟩,
   ⟨(.some 44), (.iaddr 4 (.t 42) (.t 43)), .none⟩,
   ⟨(.some 45), (.load .true 4 (.t 44) .false), .none⟩,
   ⟨(.some 46), (.mov (.t 1)), .none⟩,
   ⟨(.some 47), (.slc 1 (.t 46) (.some (.c (.d (.int .i64 1)))) .none), .none⟩,
   ⟨(.some 48), (.mov (.t 2)), .none⟩,
   ⟨(.some 49), (.mov (.t 3)), .none⟩,
   ⟨(.some 50), (.mov (.t 4)), .none⟩,
   ⟨(.some 51), (.mov (.t 5)), .none⟩,
   ⟨(.some 52), (.callp 28 [(.t 45), (.t 47), (.t 48), (.t 49), (.t 50), (.t 51)]), .none⟩,
   ⟨(.some 53), (.iaddr 4 (.t 39) (.t 40)), .none⟩,
   ⟨.none, (.store 4 (.t 53) (.t 52)), .none⟩])
 c28_6))
abbrev c28_4 : PCode :=
 (.keep [1, 2, 3, 4, 5, 6, 12, 13] (.seq (.region [⟨(.some 30), (.mov (.t 1)), .none⟩,
   ⟨(.some 31), (.iaddr 1 (.t 30) (.c (.d (.int .i64 0)))), .none⟩,
   ⟨(.some 32), (.load .false 1 (.t 31) .false), .none⟩,
   ⟨(.some 33), (.cvt .i64 (.t 32)), .none⟩,
   ⟨(.some 34), (.faddr 3 (.t 6)), .none⟩,
   ⟨(.some 35), (.load .false 1 (.t 34) .false), .none⟩,
   ⟨(.some 36), (.len (.t 35)), .none⟩,
   ⟨(.some 37), (.bin .rem (.t 33) (.t 36)), .none⟩,
   ⟨(.some 14), (.mov (.t 37)), .none⟩])
 c28_5))
abbrev c28_3 : PCode :=
 (.keep [1, 2, 3, 4, 5, 6, 12, 13] (.seq (.region [⟨(.some 25), (.bsl 4 []), .none⟩,
   ⟨(.some 26), (.faddr 3 (.t 6)), .none⟩,
   ⟨(.some 27), (.load .false 1 (.t 26) .false), .none⟩,
   ⟨(.some 28), (.appB 4 56 (.t 25) (.t 27)), .none⟩,
   ⟨(.some 29), (.faddr 3 (.t 13)), .none⟩,
   ⟨.none, (.store 1 (.t 29) (.t 28)), .none⟩])
 c28_4))
abbrev c28_2 : PCode :=
 (.seq (.region [⟨(.some 24), (.load .true 4 (.t 6) .false), .none⟩,
   ⟨(.some 13), (.alloc [(.d (.int .i64 0)), (.d (.flt .f64 0)), (.d (.str (bs []))), (.full [])]), .none⟩,
   ⟨.none, (.store 4 (.t 13) (.t 24)), .none⟩])
 c28_3)
abbrev c28_1 : PCode :=
 (.cond (.t 23)
  c28_2
  .skip)
abbrev c28_10 : PCode :=
 (.region [⟨(.some 67), (.mov (.t 3)), .none⟩,
   ⟨(.some 68), (.faddr 0 (.t 6)), .none⟩,
   ⟨.none, (.store 1 (.t 68) (.t 67)), .none⟩])
abbrev c28_13 : PCode :=
 (.region [⟨(.some 71), (.mov (.t 4)), .none⟩,
   ⟨(.some 72), (.faddr 1 (.t 6)), .none⟩,
   ⟨.none, (.store 1 (.t 72) (.t 71)), .none⟩])
abbrev c28_16 : PCode :=
 (.region [⟨(.some 75), (.mov (.t 5)), .none⟩,
   ⟨(.some 76), (.faddr 2 (.t 6)), .none⟩,
   ⟨.none, (.store 1 (.t 76) (.t 75)), .none⟩])
abbrev c28_19 : PCode :=
 (.region [⟨(.some 79), (.bsl 4 []), .none⟩,
   ⟨(.some 80), (.faddr 3 (.t 6)), .none⟩,
   ⟨(.some 81), (.load .false 1 (.t 80) .false), .none⟩,
   ⟨(.some 82), (.app 4 56 (.t 79) (.t 81)), .none⟩,
   ⟨(.some 83), (.mov (.t 3)), .none⟩,
   ⟨(.some 84), (.bld [(.d (.int .i64 0)), (.d (.flt .f64 0)), (.d (.str (bs []))), (.full [])] [(0, (1, (.t 83)))]), .none⟩,
   ⟨(.some 85), (.bsl 4 [(.t 84)]), .none⟩,
   ⟨(.some 86), (.app 4 56 (.t 82) (.t 85)), .none⟩,
   ⟨(.some 87), (.faddr 3 (.t 6)), .none⟩,
   ⟨.none, (.store 1 (.t 87) (.t 86)), .none⟩])
abbrev c28_20 : PCode :=
 (.region [⟨(.some 57), (.faddr 3 (.t 6)), .none⟩,
   ⟨(.some 58), (.load .false 1 (.t 57) .false), .none⟩,
   ⟨(.some 59), (.faddr 3 (.t 6)), .none⟩,
   ⟨(.some 60), (.load .false 1 (.t 59) .false), .none⟩,
   ⟨(.some 61), (.len (.t 60)), .none⟩,
   ⟨(.some 62), (.bin .quo (.t 61) (.c (.d (.int .i64 2)))), .none⟩,
   ⟨(.some 63), (.slc 4 (.t 58) .none (.some (.t 62))), .none⟩,
   ⟨(.some 64), (.faddr 3 (.t 6)), .none⟩,
   ⟨.none, (.store 1 (.t 64) (.t 63)), .none⟩])
abbrev c28_18 : PCode :=
 (.cond (.t 77)
  c28_19
  c28_20)
abbrev c28_17 : PCode :=
 (.seq (.region [⟨(.some 78), (.bin .eql (.t 56) (.c (.d (.int .u8 3)))), .none⟩,
   ⟨(.some 77), (.mov (.t 78)), .none⟩])
 c28_18)
abbrev c28_15 : PCode :=
 (.cond (.t 73)
  c28_16
  c28_17)
abbrev c28_14 : PCode :=
 (.seq (.region [⟨(.some 74), (.bin .eql (.t 56) (.c (.d (.int .u8 2)))), .none⟩,
   ⟨(.some 73), (.mov (.t 74)), .none⟩])
 c28_15)
abbrev c28_12 : PCode :=
 (.cond (.t 69)
  c28_13
  c28_14)
abbrev c28_11 : PCode :=
 (.seq (.region [⟨(.some 70), (.bin .eql (.t 56) (.c (.d (.int .u8 1)))), .none⟩,
   ⟨(.some 69), (.mov (.t 70)), .none⟩])
 c28_12)
abbrev c28_9 : PCode :=
 (.cond (.t 65)
  c28_10
  c28_11)
abbrev c28_8 : PCode :=
 (.block 0 (.seq (.region [⟨(.some 66), (.bin .eql (.t 56) (.c (.d (.int .u8 0)))), .none⟩,
   ⟨(.some 65), (.mov (.t 66)), .none⟩])
 c28_9))
abbrev c28_21 : PCode :=
 (.keep [6, 12] (.seq (.region [⟨(.some 88), (.load .true 4 (.t 6) .false), .none⟩,
   ⟨.none, (.store 4 (.t 12) (.t 88)), .none⟩])
 .ret))
abbrev c28_7 : PCode :=
 (.seq (.seq (.region [⟨(.some 55), (.mov (.t 2)), .none⟩,
   ⟨(.some 56), (.bin .rem (.t 55) (.c (.d (.int .u8 5)))), .none⟩])
 c28_8)
 c28_21)
abbrev c28_0 : PCode :=
 (.seq (.seq (.region [⟨(.some 15), (.mov (.t 1)), .none⟩,
   ⟨(.some 16), (.len (.t 15)), .none⟩,
   ⟨(.some 17), (.bin .gtr (.t 16) (.c (.d (.int .i64 0)))), .none⟩,
   ⟨(.some 18), (.mov (.t 17)), .none⟩,
   ⟨(.some 19), (.faddr 3 (.t 6)), (.some (18, .true))⟩,
   ⟨(.some 20), (.load .false 1 (.t 19) .false), (.some (18, .true))⟩,
   ⟨(.some 21), (.len (.t 20)), (.some (18, .true))⟩,
   ⟨(.some 22), (.bin .gtr (.t 21) (.c (.d (.int .i64 0)))), (.some (18, .true))⟩,
   ⟨(.some 23), (.pick (.t 18) (.t 22) (.c (.d (.bool .false)))), .none⟩])
 c28_1)
 c28_7)
def c28 : PFun := ⟨
 (.seq (.region [⟨(.some 6), (.box 4 (.t 0)), .none⟩,
   ⟨(.some 12), (.alloc [(.d (.int .i64 0)), (.d (.flt .f64 0)), (.d (.str (bs []))), (.full [])]), .none⟩])
 c28_0),
 6, 89, [(.cell 12 .true 4)]⟩

theorem e28 : entered Try.prog 28 = true := by kernel_rfl
theorem k28 : compFun Try.prog (fun i => if i = 3 then 8 else if i = 5 then 1 else 0) 28 = some c28.er := by kernel_rfl


abbrev u8s (l : List Int) : Dat := .sl (l.map fun n => [.int .u8 n])
theorem turnedLeaf (what n : Int) (f : Nat) (s : ByteArray) (hw : 0 ≤ what ∧ what ≤ 255) (l : List Int) (v : VT) (hv : v.fit) (hc : ¬ (l.length ≠ 0 ∧ v.of.length ≠ 0)) :
    Pure (PCalls Try.prog GG) 28 [v.av, .d (u8s l), .d (.int .u8 what), .d (.int .i64 n), .d (.flt .f64 f), .d (.str s)] (VT.leaf v what n f s).av := by
  have hw5 : what.tmod 5 = what % 5 := IntWalk.rem_in _ _ (by omega)
  have hl := hv.len
  have hr : ∀ r ∈ v.of.map VT.row, r.length = 4 := fun r hr => by obtain ⟨x, _, rfl⟩ := List.mem_map.1 hr; exact VT.row_len x
  rw [VT.av_eq, VT.av_eq]
  intro st; refine pcalls_of k28 e28 (of_decide_eq_true rfl) ?_; dsimp only [c28]; refine pstartL ?_; intro t hL; generalize hQ : pfin _ _ = Q
  (refine gor hL ?_; (repeat (clear hL; intro t hL; refine gor hL ?_))); refine po_boxA hL ?_; clear hL; intro p6 t hL
  (refine gor hL ?_; (repeat (clear hL; intro t hL; refine gor hL ?_))); (with_reducible refine po_allocL hL rfl ?_); clear hL; intro p12 t hL
  refine gor hL ?_; (repeat (clear hL; intro t hL; refine gor hL ?_))
  refine pcond_b rfl (fun h => ?_) (fun h => ?_)
  · exfalso
    simp at h
    omega
  refine gor hL ?_; (repeat (clear hL; intro t hL; refine gor hL ?_))
  refine pjoin (fun s' u => ∃ w, s' = put (put (fun _ => .undef) (some 12) (ptrAt p12)) (some 6) (ptrAt p6) ∧ VF w ((VT.leaf v what n f s).of.map VT.row) ∧ Lay st [.box p6 [.d (.int .i64 (VT.leaf v what n f s).n), .d (.flt .f64 (VT.leaf v what n f s).f), .d (.str (VT.leaf v what n f s).s), w], .box p12 [.d (.int .i64 0), .d (.flt .f64 0), .d (.str (bs [])), .full []]] u) ?_ ?_
  · refine gor hL ?_; (repeat (clear hL; intro t hL; refine gor hL ?_))
    refine gnm ?_; rw [hw5]
    refine gor hL ?_; (repeat (clear hL; intro t hL; refine gor hL ?_))
    refine pcond_b rfl (fun h0 => ?_) (fun h0 => ?_)
    · have h0' : what % 5 = 0 := by simpa using h0
      refine gor hL ?_; (repeat (clear hL; intro t hL; refine gor hL ?_))
      rw [VT.leaf, if_pos h0']
      exact ⟨_, tr2, VF.sl _, hL.pk⟩
    have h0' : what % 5 ≠ 0 := by simpa using h0
    refine gor hL ?_; (repeat (clear hL; intro t hL; refine gor hL ?_))
    refine pcond_b rfl (fun h1 => ?_) (fun h1 => ?_)
    · have h1' : what % 5 = 1 := by simpa using h1
      refine gor hL ?_; (repeat (clear hL; intro t hL; refine gor hL ?_))
      rw [VT.leaf, if_neg h0', if_pos h1']
      exact ⟨_, tr2, VF.sl _, hL.pk⟩
    have h1' : what % 5 ≠ 1 := by simpa using h1
    refine gor hL ?_; (repeat (clear hL; intro t hL; refine gor hL ?_))
    refine pcond_b rfl (fun h2 => ?_) (fun h2 => ?_)
    · have h2' : what % 5 = 2 := by simpa using h2
      refine gor hL ?_; (repeat (clear hL; intro t hL; refine gor hL ?_))
      rw [VT.leaf, if_neg h0', if_neg h1', if_pos h2']
      exact ⟨_, tr2, VF.sl _, hL.pk⟩
    have h2' : what % 5 ≠ 2 := by simpa using h2
    refine gor hL ?_; (repeat (clear hL; intro t hL; refine gor hL ?_))
    refine pcond_b rfl (fun h3 => ?_) (fun h3 => ?_)
    · have h3' : what % 5 = 3 := by simpa using h3
      refine gor hL ?_; (repeat (clear hL; intro t hL; refine gor hL ?_))
      replace hL := hL.full [] 4
      refine po_appA (rows := []) (hn := hr) hL (fun r h => (by cases h)) ?_ ?_
      · simp; omega
      clear hL; intro v1 t f1 hL
      obtain ⟨f1_r, f1_w, f1_w1, f1_c, f1_s, f1_d⟩ := id f1
      rw [List.nil_append] at hL f1_r f1_w f1_w1 f1_d
      refine gor hL ?_; (repeat (clear hL; intro t hL; refine gor hL ?_))
      refine po_appA hL hr ?_ ?_; (· simp; omega); clear hL; intro v2 t f2 hL; obtain ⟨f2_r, f2_w, f2_w1, f2_c, f2_s, f2_d⟩ := id f2
      refine gor hL ?_; (repeat (clear hL; intro t hL; refine gor hL ?_))
      rw [VT.leaf, if_neg h0', if_neg h1', if_neg h2', if_pos h3']
      refine ⟨v2, tr2, ?_, hL.pk⟩
      rw [show VT.of (.mk v.n v.f v.s (v.of ++ [VT.num n])) = v.of ++ [VT.num n] from rfl, List.map_append]
      exact f2
    have h3' : what % 5 ≠ 3 := by simpa using h3
    refine gor hL ?_; (repeat (clear hL; intro t hL; refine gor hL ?_))
    have e1 : IntKind.i64.wrap ((v.of.length : Int).tdiv 2) = ((v.of.length / 2 : Nat) : Int) := by
      rw [Int.tdiv_eq_ediv_of_nonneg (by omega), IntWalk.i64_in _ (by omega)]; omega
    refine gor hL ?_; (repeat (clear hL; intro t hL; refine gor hL ?_))
    refine gnm ?_; rw [e1]
    refine po rfl (slc_rows rfl rfl (by rw [List.length_map]; omega)) ?_
    refine gor hL ?_; (repeat (clear hL; intro t hL; refine gor hL ?_))
    rw [VT.leaf, if_neg h0', if_neg h1', if_neg h2', if_neg h3']
    refine ⟨_, tr2, ?_, hL.pk⟩
    rw [← List.map_take]
    exact VF.sl _
  rintro s' u ⟨w, rfl, fw, hL⟩
  obtain ⟨fw_r, fw_w, fw_w1, fw_c, fw_s, fw_d⟩ := id fw
  refine gor hL ?_; (repeat (clear hL; intro t hL; refine gor hL ?_))
  rw [← hQ]
  refine pwk1 hL ?_
  rw [AV.weak]
  simp only [pvwk, fw_w1]

theorem C28 (what n : Int) (f : Nat) (s : ByteArray) (hw : 0 ≤ what ∧ what ≤ 255) : ∀ (path : List Int) (v : VT), v.fit → path.length < 2 ^ 40 → (∀ p ∈ path, 0 ≤ p ∧ p ≤ 255) →
    Pure (PCalls Try.prog GG) 28 [v.av, .d (u8s path), .d (.int .u8 what), .d (.int .i64 n), .d (.flt .f64 f), .d (.str s)] (VT.turned what n f s path v).av := by
  intro path
  induction path with
  | nil =>
    intro v hv _ _
    exact turnedLeaf what n f s hw [] v hv (by simp)
  | cons p ps ih =>
    intro v hv hp hpr
    by_cases h0 : v.of.length = 0
    · rw [VT.turned, if_pos h0]
      exact turnedLeaf what n f s hw (p :: ps) v hv (by simp [h0])
    have hl := hv.len
    have hp0 := hpr p List.mem_cons_self
    obtain ⟨k, rfl⟩ : ∃ k : Nat, p = k := ⟨p.toNat, by omega⟩
    have hj : k % v.of.length < v.of.length := Nat.mod_lt _ (by omega)
    obtain ⟨y, hy, hm⟩ := elem_at hj
    have hT : VT.turned what n f s (k :: ps) v = .mk v.n v.f v.s (v.of.set (k % v.of.length) (VT.turned what n f s ps y)) := by
      rw [VT.turned, if_neg h0, List.getD_eq_getElem?_getD, Int.toNat_natCast, hy]; rfl
    have hi := ih y (hv.part hm) (by simp at hp; omega) (fun q hq => hpr q (List.mem_cons_of_mem _ hq))
    rw [hT]
    have hr : ∀ r ∈ v.of.map VT.row, r.length = 4 := fun r hr => by obtain ⟨x, _, rfl⟩ := List.mem_map.1 hr; exact VT.row_len x
    have hr1 : ∀ r ∈ ((k : Int) :: ps).map (fun n => [Dat.int .u8 n]), r.length = 1 := fun r hr => by obtain ⟨x, _, rfl⟩ := List.mem_map.1 hr; rfl
    rw [VT.av_eq, VT.av_eq]
    clear ih hT
    generalize VT.turned what n f s ps y = y' at *
    have hyr : y'.row.length = 4 := VT.row_len y'
    have hr2 : ∀ r ∈ ((v.of.set (k % v.of.length) y').map VT.row), r.length = 4 := fun r hr => by obtain ⟨x, _, rfl⟩ := List.mem_map.1 hr; exact VT.row_len x
    have hsl : ((v.of.map VT.row).length : Int) = v.of.length := by rw [List.length_map]
    intro st; refine pcalls_of k28 e28 (of_decide_eq_true rfl) ?_; dsimp only [c28]; refine pstartL ?_; intro t hL; generalize hQ : pfin _ _ = Q
    (refine gor hL ?_; (repeat (clear hL; intro t hL; refine gor hL ?_))); refine po_boxA hL ?_; clear hL; intro p6 t hL
    (refine gor hL ?_; (repeat (clear hL; intro t hL; refine gor hL ?_))); (with_reducible refine po_allocL hL rfl ?_); clear hL; intro p12 t hL
    refine gor hL ?_; (repeat (clear hL; intro t hL; refine gor hL ?_))
    refine pcond_b rfl (fun h => ?_) (fun h => ?_)
    · refine gor hL ?_; (repeat (clear hL; intro t hL; refine gor hL ?_))
      (refine gor hL ?_; (repeat (clear hL; intro t hL; refine gor hL ?_))); (with_reducible refine po_allocL hL rfl ?_); clear hL; intro p13 t hL
      refine gor hL ?_; (repeat (clear hL; intro t hL; refine gor hL ?_))
      refine pjoinO (fun s' u => ∃ b cap, (v.of.map VT.row).length ≤ cap ∧ s' = put (put (put (put (put (put (put (put (fun _ => .undef) (some 13) (ptrAt p13)) (some 12) (ptrAt p12)) (some 6) (ptrAt p6)) (some 5) (.d (.str s))) (some 4) (.d (.flt .f64 f))) (some 3) (.d (.int .i64 n))) (some 2) (.d (.int .u8 what))) (some 1) (.d (u8s (k :: ps))) ∧
        Lay st [.box b ((v.of.map VT.row).flatten.map .d ++ List.replicate ((cap - (v.of.map VT.row).length) * 4) .undef), .box p13 [.d (.int .i64 v.n), .d (.flt .f64 v.f), .d (.str v.s), .bsl b 0 (v.of.map VT.row).length cap], .box p12 [.d (.int .i64 0), .d (.flt .f64 0), .d (.str (bs [])), .full []], .box p6 [.d (.int .i64 v.n), .d (.flt .f64 v.f), .d (.str v.s), .d (.sl (v.of.map VT.row))]] u) ?_ ?_
      · refine gor hL ?_; (repeat (clear hL; intro t hL; refine gor hL ?_))
        refine po_appBL hL rfl rfl rfl hr (by rw [List.length_map]; omega) (fun h0' hL => ?_) (fun b cap t hne0 hcap hL => ?_)
        · exact absurd (by rw [← List.length_map (f := VT.row), h0']; rfl) h0
        · refine gor hL ?_; (repeat (clear hL; intro t hL; refine gor hL ?_))
          exact ⟨_, _, .refl _ _, b, cap, hcap, tr2, hL.pk⟩
      rintro s' t ⟨b, cap, hcap, rfl, hL⟩
      refine gor hL ?_; (repeat (clear hL; intro t hL; refine gor hL ?_))
      refine po_iaddrM (l := (k : Int) :: ps) (k := 0) rfl rfl rfl rfl rfl ?_
      refine gor hL ?_; (repeat (clear hL; intro t hL; refine gor hL ?_))
      refine gnm ?_; rw [IntWalk.i64_in (k : Int) (by omega)]
      refine po_remN rfl rfl h0 ?_
      refine gor hL ?_; (repeat (clear hL; intro t hL; refine gor hL ?_))
      refine pjoinO (fun s' u => s' = put (put (fun _ => .undef) (some 13) (ptrAt p13)) (some 12) (ptrAt p12) ∧
        Lay st [.box p13 [.d (.int .i64 v.n), .d (.flt .f64 v.f), .d (.str v.s), .d (.sl ((v.of.set (k % v.of.length) y').map VT.row))], .box p12 [.d (.int .i64 0), .d (.flt .f64 0), .d (.str (bs [])), .full []]] u) ?_ ?_
      · refine gor hL ?_; (repeat (clear hL; intro t hL; refine gor hL ?_))
        refine po rfl (slc_from (j := 1) rfl rfl (by simp) hr1) ?_
        refine gor hL ?_; (repeat (clear hL; intro t hL; refine gor hL ?_))
        rw [VT.av_eq] at hi
        refine po_cp (hi) ?_
        refine gor hL ?_; (repeat (clear hL; intro t hL; refine gor hL ?_))
        refine po rfl (iaddr_bslZ (k := k % v.of.length) rfl rfl (by rw [List.length_map]; exact hj)) ?_
        have hcl : ((v.of.map VT.row).flatten.map AV.d ++ List.replicate ((cap - (v.of.map VT.row).length) * 4) AV.undef).length = cap * 4 := cells_len hr hcap
        have hk4 : k % v.of.length * 4 + 4 ≤ cap * 4 := by rw [List.length_map] at hcap; omega
        refine po_storeL (cs := y'.row.map AV.d) hL rfl rfl (by repeat (first | exact Rem.head | apply Rem.tail)) rfl ⟨by rw [List.length_map]; exact hyr, sc_all _⟩ (by rw [hcl]; exact hk4) (set_cells hr (by rw [List.length_map]; exact hj) _ _) (fun _ _ _ h => False.elim h) ?_
        clear hL; intro t hL
        rw [map_set] at hL
        generalize hR : (v.of.set (k % v.of.length) y').map VT.row = R at *
        have hRl : R.length = (v.of.map VT.row).length := by rw [← hR]; simp
        rw [← hRl] at hL
        have ec : (AV.bsl b 0 R.length cap).cells = [.bsl b 0 R.length cap] := rfl
        have e1 : AV.frz1 b R (.bsl b 0 R.length cap) = .d (.sl R) := if_pos ⟨rfl, rfl, rfl⟩
        obtain ⟨t2, hz, hL⟩ := hL.frz hr2 (cells_weak _ _)
        simp only [List.map_cons, List.map_nil, Item.frz, e1, pvf] at hL
        refine gor hL ?_; (repeat (clear hL; intro t hL; refine gor hL ?_))
        refine ⟨_, t2, hz _, ?_, hL.pk⟩
        refine Eq.trans (congrArg (a₂ := put (put (fun _ => .undef) (some 13) (ptrAt p13)) (some 12) (ptrAt p12)) (fun (f : Slots) => fun i => AV.frz b R (f i)) tr2) ?_
        simp only [frz_put, frz_undef]
        rfl
      rintro s' t ⟨rfl, hL⟩
      refine gor hL ?_; (repeat (clear hL; intro t hL; refine gor hL ?_))
      rw [← hQ]
      refine pwk1 hL ?_
      rfl
    · rw [decide_eq_true (by simp), decide_eq_true (by omega)] at h
      cases h
end Go.Pv
