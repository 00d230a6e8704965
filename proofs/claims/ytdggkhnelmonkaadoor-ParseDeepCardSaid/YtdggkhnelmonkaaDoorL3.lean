/- Functions of the program, by value. No condition. -/
import Derived.Test.YtdggkhnelmonkaaDoorL2
import Derived.Test.YtdggkhnelmonkaaDoorD1
namespace Go.Pv
open Go.Proofs
set_option maxRecDepth 100000
set_option maxHeartbeats 4000000

/-- prompter/prompterlaw05.Table -/
abbrev c15_9 : PCode :=
 (.region [⟨(.some 42), (.mov (.t 4)), .none⟩,
   ⟨(.some 43), (.mov (.t 7)), .none⟩,
   ⟨(.some 44), (.bsl 1 [(.t 43)]), .none⟩,
   ⟨(.some 45), (.app 1 16 (.t 42) (.t 44)), .none⟩,
   ⟨(.some 4), (.mov (.t 45)), .none⟩])
abbrev c15_8 : PCode :=
 (.keep [1, 2, 3, 4, 6, 7, 20, 21, 22] (.seq (.region [⟨(.some 32), (.faddr 3 (.t 3)), .none⟩,
   ⟨(.some 33), (.load .false 1 (.t 32) .false), .none⟩,
   ⟨(.some 34), (.mov (.t 7)), .none⟩,
   ⟨(.some 35), (.load .true 3 (.t 6) .false), .none⟩,
   ⟨(.some 36), (.mov (.t 4)), .none⟩,
   ⟨(.some 37), (.callp 29 [(.t 35), (.c (.d (.int .i64 3))), (.t 36)]), .none⟩,
   ⟨(.some 38), (.bld [(.d (.str (bs []))), (.d (.int .u8 0)), (.d (.int .i64 0)), (.full []), (.full [])] [(0, (1, (.t 34))), (1, (4, (.t 37)))]), .none⟩,
   ⟨(.some 39), (.bsl 5 [(.t 38)]), .none⟩,
   ⟨(.some 40), (.app 5 80 (.t 33) (.t 39)), .none⟩,
   ⟨(.some 41), (.faddr 3 (.t 3)), .none⟩,
   ⟨.none, (.store 1 (.t 41) (.t 40)), .none⟩])
 c15_9))
abbrev c15_7 : PCode :=
 (.seq (.region [⟨(.some 29), (.mov (.t 5)), .none⟩,
   ⟨(.some 30), (.callp 31 [(.t 29), (.c (.d (.int .u8 3)))]), .none⟩,
   ⟨(.some 31), (.bin .add (.c (.d (.str (bs [84])))) (.t 30)), .none⟩,
   ⟨(.some 7), (.mov (.t 31)), .none⟩])
 c15_8)
abbrev c15_6 : PCode :=
 (.cond (.t 28)
  c15_7
  .skip)
abbrev c15_5 : PCode :=
 (.keep [1, 2, 3, 4, 5, 6, 20, 21, 22] (.seq (.region [⟨(.some 27), (.mov (.t 5)), .none⟩,
   ⟨(.some 28), (.bin .lss (.t 27) (.c (.d (.int .i64 4)))), .none⟩])
 c15_6))
abbrev c15_4 : PCode :=
 (.block 1 (.seq (.region [⟨(.some 24), (.mov (.t 22)), .none⟩,
   ⟨(.some 25), (.iaddr 3 (.t 20) (.t 22)), .none⟩,
   ⟨(.some 26), (.load .true 3 (.t 25) .false), .none⟩,
   ⟨(.some 6), (.alloc [(.d (.int .u8 0)), (.d (.int .u8 0)), (.full [])]), .none⟩,
   ⟨(.some 5), (.mov (.t 24)), .none⟩,
   ⟨.none, (.store 3 (.t 6) (.t 26)), .none⟩])
 c15_5))
abbrev c15_3 : PCode :=
 (.keep [1, 2, 3, 4, 20, 21, 22] (.block 0 (.loop (.some [22, 4, 1, 2, 3, 20, 21]) (.seq (.region [⟨(.some 23), (.bin .lss (.t 22) (.t 21)), .none⟩])
 (.seq (.cond (.t 23)
  .skip
  (.exit 0))
 (.seq c15_4
 (.region [⟨(.some 46), (.bin .add (.t 22) (.c (.d (.int .i64 1)))), .none⟩,
   ⟨(.some 22), (.mov (.t 46)), .none⟩])))))))
abbrev c15_13 : PCode :=
 (.region [⟨(.some 54), (.faddr 4 (.t 3)), .none⟩,
   ⟨(.some 55), (.load .false 1 (.t 54) .false), .none⟩,
   ⟨(.some 56), (.mov (.t 8)), .none⟩,
   ⟨(.some 57), (.callp 31 [(.t 56), (.c (.d (.int .u8 5)))]), .none⟩,
   ⟨(.some 58), (.bin .add (.c (.d (.str (bs [69])))) (.t 57)), .none⟩,
   ⟨(.some 59), (.mov (.t 8)), .none⟩,
   ⟨(.some 60), (.bin .mul (.c (.d (.int .i64 10))) (.t 59)), .none⟩,
   ⟨(.some 61), (.bld [(.d (.str (bs []))), (.d (.int .i64 0))] [(0, (1, (.t 58))), (1, (1, (.t 60)))]), .none⟩,
   ⟨(.some 62), (.bsl 2 [(.t 61)]), .none⟩,
   ⟨(.some 63), (.app 2 24 (.t 55) (.t 62)), .none⟩,
   ⟨(.some 64), (.faddr 4 (.t 3)), .none⟩,
   ⟨.none, (.store 1 (.t 64) (.t 63)), .none⟩])
abbrev c15_12 : PCode :=
 (.block 3 (.seq (.region [⟨(.some 53), (.mov (.t 51)), .none⟩,
   ⟨(.some 8), (.mov (.t 53)), .none⟩])
 c15_13))
abbrev c15_11 : PCode :=
 (.keep [1, 2, 3, 4, 50, 51] (.block 2 (.loop (.some [51, 1, 2, 3, 4, 50]) (.seq (.region [⟨(.some 52), (.bin .lss (.t 51) (.t 50)), .none⟩])
 (.seq (.cond (.t 52)
  .skip
  (.exit 2))
 (.seq c15_12
 (.region [⟨(.some 65), (.bin .add (.t 51) (.c (.d (.int .i64 1)))), .none⟩,
   ⟨(.some 51), (.mov (.t 65)), .none⟩])))))))
abbrev c15_19 : PCode :=
 (.region [⟨(.some 76), (.faddr 5 (.t 3)), .none⟩,
   ⟨(.some 77), (.load .false 1 (.t 76) .false), .none⟩,
   ⟨(.some 78), (.mov (.t 9)), .none⟩,
   ⟨(.some 79), (.callp 31 [(.t 78), (.c (.d (.int .u8 7)))]), .none⟩,
   ⟨(.some 80), (.bin .add (.c (.d (.str (bs [80])))) (.t 79)), .none⟩,
   ⟨(.some 81), (.mov (.t 9)), .none⟩,
   ⟨(.some 82), (.faddr 0 (.t 1)), .none⟩,
   ⟨(.some 83), (.load .false 1 (.t 82) .false), .none⟩,
   ⟨(.some 84), (.bin .rem (.t 83) (.c (.d (.int .u16 9)))), .none⟩,
   ⟨(.some 85), (.cvt .i64 (.t 84)), .none⟩,
   ⟨(.some 86), (.bin .add (.t 81) (.t 85)), .none⟩,
   ⟨(.some 87), (.faddr 0 (.t 10)), .none⟩,
   ⟨(.some 88), (.load .true 3 (.t 87) .false), .none⟩,
   ⟨(.some 89), (.mov (.t 4)), .none⟩,
   ⟨(.some 90), (.callp 29 [(.t 88), (.c (.d (.int .i64 3))), (.t 89)]), .none⟩,
   ⟨(.some 91), (.faddr 3 (.t 10)), .none⟩,
   ⟨(.some 92), (.load .true 3 (.t 91) .false), .none⟩,
   ⟨(.some 93), (.mov (.t 4)), .none⟩,
   ⟨(.some 94), (.callp 29 [(.t 92), (.c (.d (.int .i64 3))), (.t 93)]), .none⟩,
   ⟨(.some 95), (.faddr 6 (.t 10)), .none⟩,
   ⟨(.some 96), (.load .false 1 (.t 95) .false), .none⟩,
   ⟨(.some 97), (.bin .rem (.t 96) (.c (.d (.int .u8 3)))), .none⟩,
   ⟨(.some 98), (.faddr 7 (.t 10)), .none⟩,
   ⟨(.some 99), (.load .false 1 (.t 98) .false), .none⟩,
   ⟨(.some 100), (.bin .rem (.t 99) (.c (.d (.int .u16 1000)))), .none⟩,
   ⟨(.some 101), (.cvt .i64 (.t 100)), .none⟩,
   ⟨(.some 102), (.bin .add (.c (.d (.int .i64 1))) (.t 101)), .none⟩,
   ⟨(.some 103), (.bld [(.d (.str (bs []))), (.d (.int .i64 0)), (.d (.int .u8 0)), (.d (.int .i64 0)), (.full []), (.full []), (.d (.int .u8 0)), (.d (.int .i64 0)), (.full []), (.full []), (.d (.int .u8 0)), (.d (.int .i64 0))] [(0, (1, (.t 80))), (1, (1, (.t 86))), (2, (4, (.t 90))), (6, (4, (.t 94))), (10, (1, (.t 97))), (11, (1, (.t 102)))]), .none⟩,
   ⟨(.some 104), (.bsl 12 [(.t 103)]), .none⟩,
   ⟨(.some 105), (.app 12 168 (.t 77) (.t 104)), .none⟩,
   ⟨(.some 106), (.faddr 5 (.t 3)), .none⟩,
   ⟨.none, (.store 1 (.t 106) (.t 105)), .none⟩])
abbrev c15_18 : PCode :=
 (.cond (.t 75)
  c15_19
  .skip)
abbrev c15_17 : PCode :=
 (.keep [1, 2, 3, 4, 9, 10, 67, 68, 69] (.seq (.region [⟨(.some 74), (.mov (.t 9)), .none⟩,
   ⟨(.some 75), (.bin .lss (.t 74) (.c (.d (.int .i64 4)))), .none⟩])
 c15_18))
abbrev c15_16 : PCode :=
 (.block 5 (.seq (.region [⟨(.some 71), (.mov (.t 69)), .none⟩,
   ⟨(.some 72), (.iaddr 8 (.t 67) (.t 69)), .none⟩,
   ⟨(.some 73), (.load .true 8 (.t 72) .false), .none⟩,
   ⟨(.some 10), (.alloc [(.d (.int .u8 0)), (.d (.int .u8 0)), (.full []), (.d (.int .u8 0)), (.d (.int .u8 0)), (.full []), (.d (.int .u8 0)), (.d (.int .u16 0))]), .none⟩,
   ⟨(.some 9), (.mov (.t 71)), .none⟩,
   ⟨.none, (.store 8 (.t 10) (.t 73)), .none⟩])
 c15_17))
abbrev c15_15 : PCode :=
 (.keep [1, 2, 3, 4, 67, 68, 69] (.block 4 (.loop (.some [69, 1, 2, 3, 4, 67, 68]) (.seq (.region [⟨(.some 70), (.bin .lss (.t 69) (.t 68)), .none⟩])
 (.seq (.cond (.t 70)
  .skip
  (.exit 4))
 (.seq c15_16
 (.region [⟨(.some 107), (.bin .add (.t 69) (.c (.d (.int .i64 1)))), .none⟩,
   ⟨(.some 69), (.mov (.t 107)), .none⟩])))))))
abbrev c15_20 : PCode :=
 (.seq (.region [⟨(.some 108), (.load .true 6 (.t 3) .false), .none⟩,
   ⟨.none, (.store 6 (.t 2) (.t 108)), .none⟩])
 .ret)
abbrev c15_14 : PCode :=
 (.seq (.seq (.region [⟨(.some 66), (.faddr 3 (.t 1)), .none⟩,
   ⟨(.some 67), (.load .false 1 (.t 66) .false), .none⟩,
   ⟨(.some 68), (.len (.t 67)), .none⟩,
   ⟨(.some 69), (.mov (.c (.d (.int .i64 0)))), .none⟩])
 c15_15)
 c15_20)
abbrev c15_10 : PCode :=
 (.seq (.seq (.region [⟨(.some 47), (.faddr 2 (.t 1)), .none⟩,
   ⟨(.some 48), (.load .false 1 (.t 47) .false), .none⟩,
   ⟨(.some 49), (.bin .rem (.t 48) (.c (.d (.int .u8 4)))), .none⟩,
   ⟨(.some 50), (.cvt .i64 (.t 49)), .none⟩,
   ⟨(.some 51), (.mov (.c (.d (.int .i64 0)))), .none⟩])
 c15_11)
 c15_14)
abbrev c15_2 : PCode :=
 (.seq (.seq (.region [⟨(.some 19), (.faddr 1 (.t 1)), .none⟩,
   ⟨(.some 20), (.load .false 1 (.t 19) .false), .none⟩,
   ⟨(.some 21), (.len (.t 20)), .none⟩,
   ⟨(.some 22), (.mov (.c (.d (.int .i64 0)))), .none⟩])
 c15_3)
 c15_10)
abbrev c15_1 : PCode :=
 (.keep [1, 2, 3] (.seq (.region [⟨(.some 4), (.mov (.c (.full []))), .none⟩])
 c15_2))
abbrev c15_0 : PCode :=
 (.seq (.region [⟨(.some 11), (.faddr 0 (.t 1)), .none⟩,
   ⟨(.some 12), (.load .false 1 (.t 11) .false), .none⟩,
   ⟨(.some 13), (.cvt .i64 (.t 12)), .none⟩,
   ⟨(.some 14), (.faddr 0 (.t 1)), .none⟩,
   ⟨(.some 15), (.load .false 1 (.t 14) .false), .none⟩,
   ⟨(.some 16), (.cvt .i64 (.t 15)), .none⟩,
   ⟨(.some 17), (.bin .rem (.t 16) (.c (.d (.int .i64 7)))), .none⟩,
   ⟨(.some 18), (.bld [(.d (.str (bs []))), (.d (.int .i64 0)), (.d (.int .i64 0)), (.full []), (.full []), (.full [])] [(0, (1, (.c (.d (.str (bs [102, 97, 99, 101])))))), (1, (1, (.t 13))), (2, (1, (.t 17)))]), .none⟩,
   ⟨(.some 3), (.alloc [(.d (.str (bs []))), (.d (.int .i64 0)), (.d (.int .i64 0)), (.full []), (.full []), (.full [])]), .none⟩,
   ⟨.none, (.store 6 (.t 3) (.t 18)), .none⟩])
 c15_1)
def c15 : PFun := ⟨
 (.seq (.region [⟨(.some 1), (.box 4 (.t 0)), .none⟩,
   ⟨(.some 2), (.alloc [(.d (.str (bs []))), (.d (.int .i64 0)), (.d (.int .i64 0)), (.full []), (.full []), (.full [])]), .none⟩])
 c15_0),
 1, 109, [(.cell 2 .true 6)]⟩

theorem e15 : entered Tryd.prog 15 = true := by kernel_rfl
theorem k15 : compFun Tryd.prog (fun _ => 1) 15 = some c15.er := by kernel_rfl


theorem tableL (s : Sm) (hf : s.fit) : CL (PCalls Tryd.prog GK) 15 [s.av] [] (fun a : AV × AV × AV => .agg [.d (.str face), .d (.int .i64 s.number), .d (.int .i64 (s.number % 7)), a.1, a.2.1, a.2.2])
    (fun a => [.vec a.1 (((List.range s.as).map s.al).map Al.row) 5, .vec a.2.1 (((List.range s.fs).map flOf).map Fl.row) 2, .vec a.2.2 (((List.range s.ps).map s.pc).map Pc.row) 12]) := by
  refine ⟨Sat.vecs3 _ _ _ _ _ _ _, ?_⟩
  have hnum := hf.number
  have hfa := hf.faults
  have hm1 := hf.many
  have hm2 := hf.many'
  have hlenK : ∀ k, ∀ r ∈ srows (known k), r.length = 1 := fun k => srows_one
  have hlenT : ∀ k, ∀ r ∈ ((List.range k).map s.al).map Al.row, r.length = 5 := fun k r hr => by
    obtain ⟨i, _, rfl⟩ := List.mem_map.1 hr; exact Al.row_len _
  have hlenF : ∀ k, ∀ r ∈ ((List.range k).map flOf).map Fl.row, r.length = 2 := fun k r hr => by
    obtain ⟨i, _, rfl⟩ := List.mem_map.1 hr; rfl
  have hlenP : ∀ k, ∀ r ∈ ((List.range k).map s.pc).map Pc.row, r.length = 12 := fun k r hr => by
    obtain ⟨i, _, rfl⟩ := List.mem_map.1 hr; rfl
  intro st t hL; refine pcalls_of k15 e15 (of_decide_eq_true rfl) ?_; dsimp only [c15]; generalize hQ : pfin _ _ = Q
  (refine gor hL ?_; (repeat (clear hL; intro t hL; refine gor hL ?_))); refine po_boxA hL ?_; clear hL; intro p1 t hL
  (refine gor hL ?_; (repeat (clear hL; intro t hL; refine gor hL ?_))); (with_reducible refine po_allocL hL rfl ?_); clear hL; intro p2 t hL
  (refine gor hL ?_; (repeat (clear hL; intro t hL; refine gor hL ?_))); (with_reducible refine po_allocL hL rfl ?_); clear hL; intro p3 t hL
  refine gor hL ?_; (repeat (clear hL; intro t hL; refine gor hL ?_))
  have e1 : IntKind.i64.wrap s.number = s.number := IntWalk.i64_in _ (by omega)
  have e2 : (IntKind.i64.wrap s.number).tmod 7 = s.number % 7 := by rw [e1, IntWalk.rem_in _ _ (by omega)]
  rw [e2, e1] at hL
  (apply prangeA (s.aliases.length) (by omega) (fun a z => put z (some 4) a) (fun k a t => ∃ vT, Lay st [.box p3 [.d (.str face), .d (.int .i64 s.number), .d (.int .i64 (s.number % 7)), vT, .full [], .full []], .vec vT (((List.range (min k 4)).map s.al).map Al.row) 5, .vec a (srows (known (min k 4))) 1, .box p2 [.d (.str (bs [])), .d (.int .i64 0), .d (.int .i64 0), .full [], .full [], .full []], .box p1 [.d (.int .u16 s.number), .d (.sl (s.aliases.map Nd.row)), .d (.int .u8 s.faults), .d (.sl (s.procs.map Pr.row))]] t) (.full [])); (· exact trimA); (· exact fun _ _ => rfl)
  · exact ⟨.full [], ((hL.full [] 1).full [] 5).pk⟩
  · rintro vK t ⟨vT, hL⟩
    have fK := hL.vk vK
    have fT := hL.vk vT
    obtain ⟨fK_r, fK_w, fK_w1, fK_c, fK_s, fK_d⟩ := id fK
    obtain ⟨fT_r, fT_w, fT_w1, fT_c, fT_s, fT_d⟩ := id fT
    rw [show min s.aliases.length 4 = s.as from rfl] at *
    have e3 : IntKind.i64.wrap (s.faults.tmod 4) = (s.fs : Int) := by rw [IntWalk.rem_in _ _ (by omega), IntWalk.i64_in _ (by omega), Sm.fs]; omega
    have hfs : s.fs < 4 := by unfold Sm.fs; omega
    refine gor hL ?_; (repeat (clear hL; intro t hL; refine gor hL ?_))
    refine gnm ?_; rw [e3]
    (apply prangeJ (s.fs) (by omega) (fun k t => ∃ vF, Lay st [.box p3 [.d (.str face), .d (.int .i64 s.number), .d (.int .i64 (s.number % 7)), vT, vF, .full []], .vec vT (((List.range s.as).map s.al).map Al.row) 5, .vec vF (((List.range k).map flOf).map Fl.row) 2, .vec vK (srows (known s.as)) 1, .box p2 [.d (.str (bs [])), .d (.int .i64 0), .d (.int .i64 0), .full [], .full [], .full []], .box p1 [.d (.int .u16 s.number), .d (.sl (s.aliases.map Nd.row)), .d (.int .u8 s.faults), .d (.sl (s.procs.map Pr.row))]] t)); (· exact trimA); (· exact fun _ => rfl)
    · exact ⟨.full [], (hL.full [] 2).pk⟩
    · rintro t ⟨vF, hL⟩
      refine gor hL ?_; (repeat (clear hL; intro t hL; refine gor hL ?_))
      (apply prangeJ (s.procs.length) (by omega) (fun k t => ∃ vP, Lay st [.box p3 [.d (.str face), .d (.int .i64 s.number), .d (.int .i64 (s.number % 7)), vT, vF, vP], .vec vT (((List.range s.as).map s.al).map Al.row) 5, .vec vF (((List.range s.fs).map flOf).map Fl.row) 2, .vec vP (((List.range (min k 4)).map s.pc).map Pc.row) 12, .vec vK (srows (known s.as)) 1, .box p2 [.d (.str (bs [])), .d (.int .i64 0), .d (.int .i64 0), .full [], .full [], .full []], .box p1 [.d (.int .u16 s.number), .d (.sl (s.aliases.map Nd.row)), .d (.int .u8 s.faults), .d (.sl (s.procs.map Pr.row))]] t)); (· exact trimA); (· exact fun _ => rfl)
      · exact ⟨.full [], (hL.full [] 12).pk⟩
      · rintro t ⟨vP, hL⟩
        have fF := hL.vk vF
        have fP := hL.vk vP
        obtain ⟨fF_r, fF_w, fF_w1, fF_c, fF_s, fF_d⟩ := id fF
        obtain ⟨fP_r, fP_w, fP_w1, fP_c, fP_s, fP_d⟩ := id fP
        rw [show min s.procs.length 4 = s.ps from rfl] at *
        refine gor hL ?_; (repeat (clear hL; intro t hL; refine gor hL ?_))
        rw [← hQ]
        refine ⟨_, _, t, pret_one (pres_cellL hL rfl Rem.head rfl), .inl rfl, .refl _, (vT, vF, vP), rfl, hL.pk⟩
      · rintro k hk t ⟨vP, hL⟩
        have fF := hL.vk vF
        have fP := hL.vk vP
        obtain ⟨fF_r, fF_w, fF_w1, fF_c, fF_s, fF_d⟩ := id fF
        obtain ⟨fP_r, fP_w, fP_w1, fP_c, fP_s, fP_d⟩ := id fP
        obtain ⟨y, hy, hm⟩ := elem_at hk
        obtain ⟨hy1, hy2, hy3, hy4⟩ := hf.procs y hm
        refine pblock ?_
        (refine gor hL ?_; (repeat (clear hL; intro t hL; refine gor hL ?_))); (with_reducible refine po_allocL hL rfl ?_); clear hL; intro p4 t hL
        refine gor hL ?_; (repeat (clear hL; intro t hL; refine gor hL ?_))
        refine pcond_b rfl (fun h4 => ?_) (fun h4 => ?_)
        · have h4' : k < 4 := by simp at h4; omega
          have hmin : min k 4 = k := by omega
          have hmin' : min (k + 1) 4 = k + 1 := by omega
          rw [hmin] at hL fP_w fP_w1 fP_r
          rw [hmin']
          refine gor hL ?_; (repeat (clear hL; intro t hL; refine gor hL ?_))
          refine po_callp rfl (C31 k 7 (by omega) (by decide)) ?_
          refine gor hL ?_; (repeat (clear hL; intro t hL; refine gor hL ?_))
          rw [show bs [80] ++ nameOf k 7 = pname k from rfl]
          refine gor hL ?_; (repeat (clear hL; intro t hL; refine gor hL ?_))
          refine po_cp (C29 3 y.takes (known s.as) (by decide) hy1 (by simp [known, Sm.as]; omega)) ?_
          rw [KT.av_eq]
          refine gor hL ?_; (repeat (clear hL; intro t hL; refine gor hL ?_))
          refine po_cp (C29 3 y.answers (known s.as) (by decide) hy2 (by simp [known, Sm.as]; omega)) ?_
          rw [KT.av_eq]
          have hpc : s.pc k = ⟨pname k, k + s.number % 9, Nd.typ 3 y.takes (known s.as), Nd.typ 3 y.answers (known s.as), y.collate % 3, 1 + y.timeout % 1000⟩ := by rw [Sm.pc, getD_of hy]
          have e5 : IntKind.i64.wrap (k + IntKind.i64.wrap (s.number.tmod 9)) = k + s.number % 9 := by rw [IntWalk.rem_in _ _ (by omega), IntWalk.i64_in (s.number % 9) (by omega), IntWalk.i64_in _ (by omega)]
          have e6 : IntKind.i64.wrap (1 + IntKind.i64.wrap (y.timeout.tmod 1000)) = 1 + y.timeout % 1000 := by rw [IntWalk.rem_in _ _ (by omega), IntWalk.i64_in (y.timeout % 1000) (by omega), IntWalk.i64_in _ (by omega)]
          have e7 : y.collate.tmod 3 = y.collate % 3 := IntWalk.rem_in _ _ (by omega)
          have hPs : ((List.range k).map s.pc).map Pc.row ++ [(s.pc k).row] = ((List.range (k + 1)).map s.pc).map Pc.row := by
            rw [range_snoc, List.map_append]; rfl
          rw [hpc] at hPs
          simp only [Pc.row] at hPs
          generalize Nd.typ 3 y.takes (known s.as) = ty at *
          generalize Nd.typ 3 y.answers (known s.as) = ty' at *
          refine gor hL ?_; (repeat (clear hL; intro t hL; refine gor hL ?_))
          refine gnm ?_; rw [e5, e6, e7]
          refine po_appA hL (hlenP k) ?_ ?_; (· simp; omega); clear hL; intro vP' t fP' hL; obtain ⟨fP'_r, fP'_w, fP'_w1, fP'_c, fP'_s, fP'_d⟩ := id fP'
          rw [hPs] at fP' hL
          refine gor hL ?_; (repeat (clear hL; intro t hL; refine gor hL ?_))
          exact ⟨⟨_, hL.pk⟩, tr2⟩
        · have h4' : ¬ k < 4 := by simp at h4; omega
          have hmin : min k 4 = 4 := by omega
          have hmin' : min (k + 1) 4 = 4 := by omega
          rw [hmin] at hL
          rw [hmin']
          refine gor hL ?_; (repeat (clear hL; intro t hL; refine gor hL ?_))
          exact ⟨⟨_, hL.pk⟩, tr2⟩
    · rintro k hk t ⟨vF, hL⟩
      have fF := hL.vk vF
      obtain ⟨fF_r, fF_w, fF_w1, fF_c, fF_s, fF_d⟩ := id fF
      refine gor hL ?_; (repeat (clear hL; intro t hL; refine gor hL ?_))
      refine po_callp rfl (C31 k 5 (by omega) (by decide)) ?_
      refine gor hL ?_; (repeat (clear hL; intro t hL; refine gor hL ?_))
      rw [show bs [69] ++ nameOf k 5 = ename k from rfl]
      refine gor hL ?_; (repeat (clear hL; intro t hL; refine gor hL ?_))
      have e4 : IntKind.i64.wrap (10 * (k : Int)) = 10 * k := IntWalk.i64_in _ (by omega)
      refine gnm ?_; rw [e4]
      have hFs : ((List.range k).map flOf).map Fl.row ++ [[.str (ename k), .int .i64 (10 * k)]] = ((List.range (k + 1)).map flOf).map Fl.row := by
        rw [range_snoc, List.map_append]; rfl
      refine po_appA hL (hlenF k) ?_ ?_; (· simp; omega); clear hL; intro vF' t fF' hL; obtain ⟨fF'_r, fF'_w, fF'_w1, fF'_c, fF'_s, fF'_d⟩ := id fF'
      rw [hFs] at fF' hL
      refine gor hL ?_; (repeat (clear hL; intro t hL; refine gor hL ?_))
      exact ⟨⟨_, hL.pk⟩, tr2⟩
  · rintro k hk vK t ⟨vT, hL⟩
    have fK := hL.vk vK
    have fT := hL.vk vT
    obtain ⟨fK_r, fK_w, fK_w1, fK_c, fK_s, fK_d⟩ := id fK
    obtain ⟨fT_r, fT_w, fT_w1, fT_c, fT_s, fT_d⟩ := id fT
    obtain ⟨y, hy, hm⟩ := elem_at hk
    refine pblock ?_
    (refine gor hL ?_; (repeat (clear hL; intro t hL; refine gor hL ?_))); (with_reducible refine po_allocL hL rfl ?_); clear hL; intro p4 t hL
    refine gor hL ?_; (repeat (clear hL; intro t hL; refine gor hL ?_))
    refine pcond_b rfl (fun h4 => ?_) (fun h4 => ?_)
    · have h4' : k < 4 := by simp at h4; omega
      have hmin : min k 4 = k := by omega
      have hmin' : min (k + 1) 4 = k + 1 := by omega
      rw [hmin] at hL fK_w fT_w fK_w1 fT_w1 fT_r fK_r
      rw [hmin']
      refine gor hL ?_; (repeat (clear hL; intro t hL; refine gor hL ?_))
      refine po_callp rfl (C31 k 3 (by omega) (by decide)) ?_
      refine gor hL ?_; (repeat (clear hL; intro t hL; refine gor hL ?_))
      rw [show bs [84] ++ nameOf k 3 = tname k from rfl]
      refine gor hL ?_; (repeat (clear hL; intro t hL; refine gor hL ?_))
      refine po_cp (C29 3 y (known k) (by decide) (hf.aliases y hm) (by simp [known]; omega)) ?_
      rw [KT.av_eq]
      have hal : s.al k = ⟨tname k, Nd.typ 3 y (known k)⟩ := by rw [Sm.al, getD_of hy]
      have hTs : ((List.range k).map s.al).map Al.row ++ [[.str (tname k), .int .u8 (Nd.typ 3 y (known k)).kind, .int .i64 (Nd.typ 3 y (known k)).most, .sl ((Nd.typ 3 y (known k)).names.map fun s => [.str s]), .sl ((Nd.typ 3 y (known k)).of.map KT.row)]] = ((List.range (k + 1)).map s.al).map Al.row := by
        rw [range_snoc, List.map_append, hal, List.map_singleton, Al.row_eq]
      generalize Nd.typ 3 y (known k) = ty at *
      refine gor hL ?_; (repeat (clear hL; intro t hL; refine gor hL ?_))
      refine po_appA hL (hlenT k) ?_ ?_; (· simp; omega); clear hL; intro vT' t fT' hL; obtain ⟨fT'_r, fT'_w, fT'_w1, fT'_c, fT'_s, fT'_d⟩ := id fT'
      rw [hTs] at fT' hL
      refine gor hL ?_; (repeat (clear hL; intro t hL; refine gor hL ?_))
      refine po_appA hL (hlenK k) ?_ ?_; (· simp [srows, known]; omega); clear hL; intro vK' t fK' hL; obtain ⟨fK'_r, fK'_w, fK'_w1, fK'_c, fK'_s, fK'_d⟩ := id fK'
      rw [show srows (known k) ++ [[Dat.str (tname k)]] = srows (known (k + 1)) by rw [srows, srows, known, known, range_snoc, List.map_append]; rfl] at hL
      refine gor hL ?_; (repeat (clear hL; intro t hL; refine gor hL ?_))
      exact ⟨vK', ⟨vT', hL.pk⟩, tr2⟩
    · have h4' : ¬ k < 4 := by simp at h4; omega
      have hmin : min k 4 = 4 := by omega
      have hmin' : min (k + 1) 4 = 4 := by omega
      rw [hmin] at hL
      rw [hmin']
      refine gor hL ?_; (repeat (clear hL; intro t hL; refine gor hL ?_))
      exact ⟨_, ⟨_, hL.pk⟩, tr2⟩

theorem C15 (s : Sm) (hf : s.fit) : Pure (PCalls Tryd.prog GK) 15 [s.av] s.tb.av := by
  refine (tableL s hf).pure ?_
  rintro ⟨vT, vF, vP⟩ st t hL
  have f1 := hL.vk vT
  have f2 := hL.vk vF
  have f3 := hL.vk vP
  simp only [pvwk, f1.weak1, f2.weak1, f3.weak1]
  rfl
end Go.Pv
