/- Functions of the program, by value. No condition. -/
import Derived.Test.YtidelhpljjjjmaaV10
namespace Go.Pv
open Go.Proofs
set_option maxRecDepth 100000
set_option maxHeartbeats 8000000

/-- prompter/prompterlaw08.Ref -/
abbrev c20_4 : PCode :=
 (.region [⟨(.some 22), (.faddr 3 (.t 3)), .none⟩,
   ⟨(.some 23), (.load .false 1 (.t 22) .false), .none⟩,
   ⟨(.some 24), (.load .true 4 (.t 5) .false), .none⟩,
   ⟨(.some 25), (.callp 20 [(.t 24)]), .none⟩,
   ⟨(.some 26), (.bsl 4 [(.t 25)]), .none⟩,
   ⟨(.some 27), (.app 4 48 (.t 23) (.t 26)), .none⟩,
   ⟨(.some 28), (.faddr 3 (.t 3)), .none⟩,
   ⟨.none, (.store 1 (.t 28) (.t 27)), .none⟩])
abbrev c20_3 : PCode :=
 (.block 1 (.seq (.region [⟨(.some 20), (.iaddr 4 (.t 16) (.t 18)), .none⟩,
   ⟨(.some 21), (.load .true 4 (.t 20) .false), .none⟩,
   ⟨(.some 5), (.alloc [(.d (.int .u8 0)), (.d (.int .i64 0)), (.full []), (.full [])]), .none⟩,
   ⟨.none, (.store 4 (.t 5) (.t 21)), .none⟩])
 c20_4))
abbrev c20_2 : PCode :=
 (.keep [2, 3, 16, 17, 18] (.block 0 (.loop (.some [18, 2, 3, 16, 17]) (.seq (.region [⟨(.some 19), (.bin .lss (.t 18) (.t 17)), .none⟩])
 (.seq (.cond (.t 19)
  .skip
  (.exit 0))
 (.seq c20_3
 (.region [⟨(.some 29), (.bin .add (.t 18) (.c (.d (.int .i64 1)))), .none⟩,
   ⟨(.some 18), (.mov (.t 29)), .none⟩])))))))
abbrev c20_5 : PCode :=
 (.seq (.region [⟨(.some 30), (.load .true 4 (.t 3) .false), .none⟩,
   ⟨.none, (.store 4 (.t 2) (.t 30)), .none⟩])
 .ret)
abbrev c20_1 : PCode :=
 (.keep [1, 2, 3] (.seq (.seq (.region [⟨(.some 15), (.faddr 3 (.t 1)), .none⟩,
   ⟨(.some 16), (.load .false 1 (.t 15) .false), .none⟩,
   ⟨(.some 17), (.len (.t 16)), .none⟩,
   ⟨(.some 18), (.mov (.c (.d (.int .i64 0)))), .none⟩])
 c20_2)
 c20_5))
abbrev c20_0 : PCode :=
 (.seq (.region [⟨(.some 6), (.faddr 0 (.t 1)), .none⟩,
   ⟨(.some 7), (.load .false 1 (.t 6) .false), .none⟩,
   ⟨(.some 8), (.cvt .i64 (.t 7)), .none⟩,
   ⟨(.some 9), (.faddr 1 (.t 1)), .none⟩,
   ⟨(.some 10), (.load .false 1 (.t 9) .false), .none⟩,
   ⟨(.some 11), (.faddr 2 (.t 1)), .none⟩,
   ⟨(.some 12), (.load .false 1 (.t 11) .false), .none⟩,
   ⟨(.some 13), (.len (.t 12)), .none⟩,
   ⟨(.some 14), (.bld [(.d (.int .i64 0)), (.d (.int .i64 0)), (.d (.int .i64 0)), (.full [])] [(0, (1, (.t 8))), (1, (1, (.t 10))), (2, (1, (.t 13)))]), .none⟩,
   ⟨(.some 3), (.alloc [(.d (.int .i64 0)), (.d (.int .i64 0)), (.d (.int .i64 0)), (.full [])]), .none⟩,
   ⟨.none, (.store 4 (.t 3) (.t 14)), .none⟩])
 c20_1)
def c20 : PFun := ⟨
 (.seq (.region [⟨(.some 1), (.box 4 (.t 0)), .none⟩,
   ⟨(.some 2), (.alloc [(.d (.int .i64 0)), (.d (.int .i64 0)), (.d (.int .i64 0)), (.full [])]), .none⟩])
 c20_0),
 1, 31, [(.cell 2 .true 4)]⟩

/-- prompter/prompterlaw08.RefValue -/
abbrev c21_4 : PCode :=
 (.region [⟨(.some 20), (.faddr 3 (.t 3)), .none⟩,
   ⟨(.some 21), (.load .false 1 (.t 20) .false), .none⟩,
   ⟨(.some 22), (.load .true 4 (.t 5) .false), .none⟩,
   ⟨(.some 23), (.callp 21 [(.t 22)]), .none⟩,
   ⟨(.some 24), (.bsl 4 [(.t 23)]), .none⟩,
   ⟨(.some 25), (.app 4 56 (.t 21) (.t 24)), .none⟩,
   ⟨(.some 26), (.faddr 3 (.t 3)), .none⟩,
   ⟨.none, (.store 1 (.t 26) (.t 25)), .none⟩])
abbrev c21_3 : PCode :=
 (.block 1 (.seq (.region [⟨(.some 18), (.iaddr 4 (.t 14) (.t 16)), .none⟩,
   ⟨(.some 19), (.load .true 4 (.t 18) .false), .none⟩,
   ⟨(.some 5), (.alloc [(.d (.int .i64 0)), (.d (.flt .f64 0)), (.d (.str (bs []))), (.full [])]), .none⟩,
   ⟨.none, (.store 4 (.t 5) (.t 19)), .none⟩])
 c21_4))
abbrev c21_2 : PCode :=
 (.keep [2, 3, 14, 15, 16] (.block 0 (.loop (.some [16, 2, 3, 14, 15]) (.seq (.region [⟨(.some 17), (.bin .lss (.t 16) (.t 15)), .none⟩])
 (.seq (.cond (.t 17)
  .skip
  (.exit 0))
 (.seq c21_3
 (.region [⟨(.some 27), (.bin .add (.t 16) (.c (.d (.int .i64 1)))), .none⟩,
   ⟨(.some 16), (.mov (.t 27)), .none⟩])))))))
abbrev c21_5 : PCode :=
 (.seq (.region [⟨(.some 28), (.load .true 4 (.t 3) .false), .none⟩,
   ⟨.none, (.store 4 (.t 2) (.t 28)), .none⟩])
 .ret)
abbrev c21_1 : PCode :=
 (.keep [1, 2, 3] (.seq (.seq (.region [⟨(.some 13), (.faddr 3 (.t 1)), .none⟩,
   ⟨(.some 14), (.load .false 1 (.t 13) .false), .none⟩,
   ⟨(.some 15), (.len (.t 14)), .none⟩,
   ⟨(.some 16), (.mov (.c (.d (.int .i64 0)))), .none⟩])
 c21_2)
 c21_5))
abbrev c21_0 : PCode :=
 (.seq (.region [⟨(.some 6), (.faddr 0 (.t 1)), .none⟩,
   ⟨(.some 7), (.load .false 1 (.t 6) .false), .none⟩,
   ⟨(.some 8), (.faddr 1 (.t 1)), .none⟩,
   ⟨(.some 9), (.load .false 1 (.t 8) .false), .none⟩,
   ⟨(.some 10), (.faddr 2 (.t 1)), .none⟩,
   ⟨(.some 11), (.load .false 1 (.t 10) .false), .none⟩,
   ⟨(.some 12), (.bld [(.d (.int .i64 0)), (.d (.flt .f64 0)), (.d (.str (bs []))), (.full [])] [(0, (1, (.t 7))), (1, (1, (.t 9))), (2, (1, (.t 11)))]), .none⟩,
   ⟨(.some 3), (.alloc [(.d (.int .i64 0)), (.d (.flt .f64 0)), (.d (.str (bs []))), (.full [])]), .none⟩,
   ⟨.none, (.store 4 (.t 3) (.t 12)), .none⟩])
 c21_1)
def c21 : PFun := ⟨
 (.seq (.region [⟨(.some 1), (.box 4 (.t 0)), .none⟩,
   ⟨(.some 2), (.alloc [(.d (.int .i64 0)), (.d (.flt .f64 0)), (.d (.str (bs []))), (.full [])]), .none⟩])
 c21_0),
 1, 29, [(.cell 2 .true 4)]⟩

/-- prompter/prompterlaw08.Of -/
abbrev c24_4 : PCode :=
 (.region [⟨(.some 20), (.faddr 3 (.t 3)), .none⟩,
   ⟨(.some 21), (.load .false 1 (.t 20) .false), .none⟩,
   ⟨(.some 22), (.load .true 4 (.t 5) .false), .none⟩,
   ⟨(.some 23), (.callp 24 [(.t 22)]), .none⟩,
   ⟨(.some 24), (.bsl 4 [(.t 23)]), .none⟩,
   ⟨(.some 25), (.app 4 56 (.t 21) (.t 24)), .none⟩,
   ⟨(.some 26), (.faddr 3 (.t 3)), .none⟩,
   ⟨.none, (.store 1 (.t 26) (.t 25)), .none⟩])
abbrev c24_3 : PCode :=
 (.block 1 (.seq (.region [⟨(.some 18), (.iaddr 4 (.t 14) (.t 16)), .none⟩,
   ⟨(.some 19), (.load .true 4 (.t 18) .false), .none⟩,
   ⟨(.some 5), (.alloc [(.d (.int .i64 0)), (.d (.flt .f64 0)), (.d (.str (bs []))), (.full [])]), .none⟩,
   ⟨.none, (.store 4 (.t 5) (.t 19)), .none⟩])
 c24_4))
abbrev c24_2 : PCode :=
 (.keep [2, 3, 14, 15, 16] (.block 0 (.loop (.some [16, 2, 3, 14, 15]) (.seq (.region [⟨(.some 17), (.bin .lss (.t 16) (.t 15)), .none⟩])
 (.seq (.cond (.t 17)
  .skip
  (.exit 0))
 (.seq c24_3
 (.region [⟨(.some 27), (.bin .add (.t 16) (.c (.d (.int .i64 1)))), .none⟩,
   ⟨(.some 16), (.mov (.t 27)), .none⟩])))))))
abbrev c24_5 : PCode :=
 (.seq (.region [⟨(.some 28), (.load .true 4 (.t 3) .false), .none⟩,
   ⟨.none, (.store 4 (.t 2) (.t 28)), .none⟩])
 .ret)
abbrev c24_1 : PCode :=
 (.keep [1, 2, 3] (.seq (.seq (.region [⟨(.some 13), (.faddr 3 (.t 1)), .none⟩,
   ⟨(.some 14), (.load .false 1 (.t 13) .false), .none⟩,
   ⟨(.some 15), (.len (.t 14)), .none⟩,
   ⟨(.some 16), (.mov (.c (.d (.int .i64 0)))), .none⟩])
 c24_2)
 c24_5))
abbrev c24_0 : PCode :=
 (.seq (.region [⟨(.some 6), (.faddr 0 (.t 1)), .none⟩,
   ⟨(.some 7), (.load .false 1 (.t 6) .false), .none⟩,
   ⟨(.some 8), (.faddr 1 (.t 1)), .none⟩,
   ⟨(.some 9), (.load .false 1 (.t 8) .false), .none⟩,
   ⟨(.some 10), (.faddr 2 (.t 1)), .none⟩,
   ⟨(.some 11), (.load .false 1 (.t 10) .false), .none⟩,
   ⟨(.some 12), (.bld [(.d (.int .i64 0)), (.d (.flt .f64 0)), (.d (.str (bs []))), (.full [])] [(0, (1, (.t 7))), (1, (1, (.t 9))), (2, (1, (.t 11)))]), .none⟩,
   ⟨(.some 3), (.alloc [(.d (.int .i64 0)), (.d (.flt .f64 0)), (.d (.str (bs []))), (.full [])]), .none⟩,
   ⟨.none, (.store 4 (.t 3) (.t 12)), .none⟩])
 c24_1)
def c24 : PFun := ⟨
 (.seq (.region [⟨(.some 1), (.box 4 (.t 0)), .none⟩,
   ⟨(.some 2), (.alloc [(.d (.int .i64 0)), (.d (.flt .f64 0)), (.d (.str (bs []))), (.full [])]), .none⟩])
 c24_0),
 1, 29, [(.cell 2 .true 4)]⟩

/-- prompter/prompterref01.Bits -/
abbrev c41_2 : PCode :=
 (.seq (.region [⟨(.some 2), (.mov (.c (.d (.int .u64 9221120237041090560)))), .none⟩])
 .ret)
abbrev c41_1 : PCode :=
 (.cond (.t 5)
  c41_2
  .skip)
abbrev c41_3 : PCode :=
 (.keep [0] (.seq (.region [⟨(.some 6), (.mov (.t 0)), .none⟩,
   ⟨(.some 7), (.nat 0 (.t 6)), .none⟩,
   ⟨(.some 2), (.mov (.t 7)), .none⟩])
 .ret))
abbrev c41_0 : PCode :=
 (.seq (.seq (.region [⟨(.some 3), (.mov (.t 0)), .none⟩,
   ⟨(.some 4), (.mov (.t 0)), .none⟩,
   ⟨(.some 5), (.bin .neq (.t 3) (.t 4)), .none⟩])
 c41_1)
 c41_3)
def c41 : PFun := ⟨
 (.seq (.region [⟨(.some 2), (.mov (.c (.d (.int .u64 0)))), .none⟩])
 c41_0),
 1, 8, [(.tmp 2)]⟩

/-- prompter/prompterref01.Whole -/
abbrev c46_2 : PCode :=
 (.seq (.region [⟨(.some 2), (.mov (.c (.d (.int .i64 0)))), .none⟩])
 .ret)
abbrev c46_1 : PCode :=
 (.cond (.t 5)
  c46_2
  .skip)
abbrev c46_5 : PCode :=
 (.seq (.region [⟨(.some 2), (.mov (.c (.d (.int .i64 2147483648)))), .none⟩])
 .ret)
abbrev c46_4 : PCode :=
 (.cond (.t 7)
  c46_5
  .skip)
abbrev c46_8 : PCode :=
 (.seq (.region [⟨(.some 2), (.mov (.c (.d (.int .i64 (-2147483648))))), .none⟩])
 .ret)
abbrev c46_7 : PCode :=
 (.cond (.t 9)
  c46_8
  .skip)
abbrev c46_9 : PCode :=
 (.keep [0] (.seq (.region [⟨(.some 10), (.mov (.t 0)), .none⟩,
   ⟨(.some 11), (.cvtI .i64 (.t 10)), .none⟩,
   ⟨(.some 2), (.mov (.t 11)), .none⟩])
 .ret))
abbrev c46_6 : PCode :=
 (.keep [0] (.seq (.seq (.region [⟨(.some 8), (.mov (.t 0)), .none⟩,
   ⟨(.some 9), (.bin .leq (.t 8) (.c (.d (.flt .f64 13970166044103278592)))), .none⟩])
 c46_7)
 c46_9))
abbrev c46_3 : PCode :=
 (.keep [0] (.seq (.seq (.region [⟨(.some 6), (.mov (.t 0)), .none⟩,
   ⟨(.some 7), (.bin .geq (.t 6) (.c (.d (.flt .f64 4746794007248502784)))), .none⟩])
 c46_4)
 c46_6))
abbrev c46_0 : PCode :=
 (.seq (.seq (.region [⟨(.some 3), (.mov (.t 0)), .none⟩,
   ⟨(.some 4), (.mov (.t 0)), .none⟩,
   ⟨(.some 5), (.bin .neq (.t 3) (.t 4)), .none⟩])
 c46_1)
 c46_3)
def c46 : PFun := ⟨
 (.seq (.region [⟨(.some 2), (.mov (.c (.d (.int .i64 0)))), .none⟩])
 c46_0),
 1, 12, [(.tmp 2)]⟩

theorem e20 : entered Try.prog 20 = true := by kernel_rfl
theorem k20 : compFun Try.prog (fun i => if i = 5 then 1 else 0) 20 = some c20.er := by kernel_rfl
theorem e21 : entered Try.prog 21 = true := by kernel_rfl
theorem k21 : compFun Try.prog (fun i => if i = 5 then 1 else 0) 21 = some c21.er := by kernel_rfl
theorem e24 : entered Try.prog 24 = true := by kernel_rfl
theorem k24 : compFun Try.prog (fun i => if i = 5 then 1 else 0) 24 = some c24.er := by kernel_rfl
theorem e41 : entered Try.prog 41 = true := by kernel_rfl
theorem k41 : compFun Try.prog (fun _ => 0) 41 = some c41.er := by kernel_rfl
theorem e46 : entered Try.prog 46 = true := by kernel_rfl
theorem k46 : compFun Try.prog (fun _ => 0) 46 = some c46.er := by kernel_rfl


theorem C21 (v : VT) : v.fit → Pure (PCalls Try.prog GG) 21 [v.av] v.av := by
  induction v using VT.ind with
  | h n f s o ih =>
  intro hf
  have hl := hf.len
  have hpart : ∀ x ∈ o, x.fit := fun x hx => hf.part hx
  simp only [VT.av_eq, VT.pj] at ih hl ⊢
  have hrl : ∀ k, ∀ r ∈ (o.take k).map VT.row, r.length = 4 := fun k r hr => by obtain ⟨x, _, rfl⟩ := List.mem_map.1 hr; exact VT.row_len x
  intro st; refine pcalls_of k21 e21 (of_decide_eq_true rfl) ?_; dsimp only [c21]; refine pstartL ?_; intro t hL; generalize hQ : pfin _ _ = Q
  (refine gor hL ?_; (repeat (clear hL; intro t hL; refine gor hL ?_))); refine po_boxA hL ?_; clear hL; intro p1 t hL
  (refine gor hL ?_; (repeat (clear hL; intro t hL; refine gor hL ?_))); (with_reducible refine po_allocL hL rfl ?_); clear hL; intro p2 t hL
  refine gor hL ?_; (repeat (clear hL; intro t hL; refine gor hL ?_))
  (refine gor hL ?_; (repeat (clear hL; intro t hL; refine gor hL ?_))); (with_reducible refine po_allocL hL rfl ?_); clear hL; intro p3 t hL
  refine gor hL ?_; (repeat (clear hL; intro t hL; refine gor hL ?_))
  (apply prangeJ (o.length) (by omega) (fun k t => ∃ a, Lay st [.box p3 [.d (.int .i64 n), .d (.flt .f64 f), .d (.str s), a], .vec a ((o.take k).map VT.row) 4, .box p2 [.d (.int .i64 0), .d (.flt .f64 0), .d (.str (bs [])), .full []]] t)); (· exact trimA); (· exact fun _ => rfl)
  · replace hL := hL.full [] 4
    exact ⟨.full [], hL.pk⟩
  · rintro t ⟨a, hL⟩
    rw [List.take_length] at hL
    have fa := hL.vk a
    obtain ⟨fa_r, fa_w, fa_w1, fa_c, fa_s, fa_d⟩ := id fa
    refine gor hL ?_; (repeat (clear hL; intro t hL; refine gor hL ?_))
    rw [← hQ]
    refine pwk1 hL ?_
    simp only [pvwk, fa_w1]
  · rintro k hk t ⟨a, hL⟩
    obtain ⟨x, hx, hxm⟩ := elem_at hk
    have fa := hL.vk a
    obtain ⟨fa_r, fa_w, fa_w1, fa_c, fa_s, fa_d⟩ := id fa
    have hi := ih x hxm (hpart x hxm)
    have hr' : ((o.take k).map VT.row) ++ [x.row] = (o.take (k + 1)).map VT.row := by rw [take_snoc hx, List.map_append]; rfl
    rw [VT.row_eq x] at hr'
    simp only [VT.cs] at hr'
    refine pblock ?_
    (refine gor hL ?_; (repeat (clear hL; intro t hL; refine gor hL ?_))); (with_reducible refine po_allocL hL rfl ?_); clear hL; intro p5 t hL
    refine gor hL ?_; (repeat (clear hL; intro t hL; refine gor hL ?_))
    refine po_cp (hi) ?_
    refine gor hL ?_; (repeat (clear hL; intro t hL; refine gor hL ?_))
    refine po_appA hL (hrl k) ?_ ?_; (· simp; omega); clear hL; intro a' t f' hL; obtain ⟨f'_r, f'_w, f'_w1, f'_c, f'_s, f'_d⟩ := id f'
    rw [hr'] at hL
    refine gor hL ?_; (repeat (clear hL; intro t hL; refine gor hL ?_))
    exact ⟨⟨a', hL.pk⟩, tr2⟩

theorem C24 (v : VT) : v.fit → Pure (PCalls Try.prog GG) 24 [v.av] v.av := by
  induction v using VT.ind with
  | h n f s o ih =>
  intro hf
  have hl := hf.len
  have hpart : ∀ x ∈ o, x.fit := fun x hx => hf.part hx
  simp only [VT.av_eq, VT.pj] at ih hl ⊢
  have hrl : ∀ k, ∀ r ∈ (o.take k).map VT.row, r.length = 4 := fun k r hr => by obtain ⟨x, _, rfl⟩ := List.mem_map.1 hr; exact VT.row_len x
  intro st; refine pcalls_of k24 e24 (of_decide_eq_true rfl) ?_; dsimp only [c24]; refine pstartL ?_; intro t hL; generalize hQ : pfin _ _ = Q
  (refine gor hL ?_; (repeat (clear hL; intro t hL; refine gor hL ?_))); refine po_boxA hL ?_; clear hL; intro p1 t hL
  (refine gor hL ?_; (repeat (clear hL; intro t hL; refine gor hL ?_))); (with_reducible refine po_allocL hL rfl ?_); clear hL; intro p2 t hL
  refine gor hL ?_; (repeat (clear hL; intro t hL; refine gor hL ?_))
  (refine gor hL ?_; (repeat (clear hL; intro t hL; refine gor hL ?_))); (with_reducible refine po_allocL hL rfl ?_); clear hL; intro p3 t hL
  refine gor hL ?_; (repeat (clear hL; intro t hL; refine gor hL ?_))
  (apply prangeJ (o.length) (by omega) (fun k t => ∃ a, Lay st [.box p3 [.d (.int .i64 n), .d (.flt .f64 f), .d (.str s), a], .vec a ((o.take k).map VT.row) 4, .box p2 [.d (.int .i64 0), .d (.flt .f64 0), .d (.str (bs [])), .full []]] t)); (· exact trimA); (· exact fun _ => rfl)
  · replace hL := hL.full [] 4
    exact ⟨.full [], hL.pk⟩
  · rintro t ⟨a, hL⟩
    rw [List.take_length] at hL
    have fa := hL.vk a
    obtain ⟨fa_r, fa_w, fa_w1, fa_c, fa_s, fa_d⟩ := id fa
    refine gor hL ?_; (repeat (clear hL; intro t hL; refine gor hL ?_))
    rw [← hQ]
    refine pwk1 hL ?_
    simp only [pvwk, fa_w1]
  · rintro k hk t ⟨a, hL⟩
    obtain ⟨x, hx, hxm⟩ := elem_at hk
    have fa := hL.vk a
    obtain ⟨fa_r, fa_w, fa_w1, fa_c, fa_s, fa_d⟩ := id fa
    have hi := ih x hxm (hpart x hxm)
    have hr' : ((o.take k).map VT.row) ++ [x.row] = (o.take (k + 1)).map VT.row := by rw [take_snoc hx, List.map_append]; rfl
    rw [VT.row_eq x] at hr'
    simp only [VT.cs] at hr'
    refine pblock ?_
    (refine gor hL ?_; (repeat (clear hL; intro t hL; refine gor hL ?_))); (with_reducible refine po_allocL hL rfl ?_); clear hL; intro p5 t hL
    refine gor hL ?_; (repeat (clear hL; intro t hL; refine gor hL ?_))
    refine po_cp (hi) ?_
    refine gor hL ?_; (repeat (clear hL; intro t hL; refine gor hL ?_))
    refine po_appA hL (hrl k) ?_ ?_; (· simp; omega); clear hL; intro a' t f' hL; obtain ⟨f'_r, f'_w, f'_w1, f'_c, f'_s, f'_d⟩ := id f'
    rw [hr'] at hL
    refine gor hL ?_; (repeat (clear hL; intro t hL; refine gor hL ?_))
    exact ⟨⟨a', hL.pk⟩, tr2⟩


theorem C41 (b : Nat) : Pure (PCalls Try.prog GG) 41 [.d (.flt .f64 b)] (.d (.int .u64 (fbits b))) := by
  intro st; refine pcalls_of k41 e41 (of_decide_eq_true rfl) ?_; dsimp only [c41]; refine pstartL ?_; intro t hL; generalize hQ : pfin _ _ = Q
  refine gor hL ?_; (repeat (clear hL; intro t hL; refine gor hL ?_))
  refine pcond_b rfl (fun h => ?_) (fun h => ?_)
  · refine gor hL ?_; (repeat (clear hL; intro t hL; refine gor hL ?_))
    rw [← hQ]
    rw [fbits, if_pos h]
    exact pfin_pure rfl hL.le
  refine gor hL ?_; (repeat (clear hL; intro t hL; refine gor hL ?_))
  rw [← hQ]
  rw [fbits, if_neg (by rw [h]; decide)]
  exact pfin_pure rfl hL.le
theorem C46 (b : Nat) : Pure (PCalls Try.prog GG) 46 [.d (.flt .f64 b)] (.d (.int .i64 (wholeF b))) := by
  intro st; refine pcalls_of k46 e46 (of_decide_eq_true rfl) ?_; dsimp only [c46]; refine pstartL ?_; intro t hL; generalize hQ : pfin _ _ = Q
  refine gor hL ?_; (repeat (clear hL; intro t hL; refine gor hL ?_))
  refine pcond_b rfl (fun h0 => ?_) (fun h0 => ?_)
  · rw [wholeF, if_pos h0] at hQ
    refine gor hL ?_; (repeat (clear hL; intro t hL; refine gor hL ?_))
    rw [← hQ]
    exact pfin_pure rfl hL.le
  have h0' : (F64.order b b != some .eq) = false := h0
  refine gor hL ?_; (repeat (clear hL; intro t hL; refine gor hL ?_))
  refine pcond_b rfl (fun h1 => ?_) (fun h1 => ?_)
  · rw [wholeF, if_neg (by rw [h0']; decide), if_pos h1] at hQ
    refine gor hL ?_; (repeat (clear hL; intro t hL; refine gor hL ?_))
    rw [← hQ]
    exact pfin_pure rfl hL.le
  have h1' : (F64.order b farB == some .gt || F64.order b farB == some .eq) = false := h1
  refine gor hL ?_; (repeat (clear hL; intro t hL; refine gor hL ?_))
  refine pcond_b rfl (fun h2 => ?_) (fun h2 => ?_)
  · rw [wholeF, if_neg (by rw [h0']; decide), if_neg (by rw [h1']; decide), if_pos h2] at hQ
    refine gor hL ?_; (repeat (clear hL; intro t hL; refine gor hL ?_))
    rw [← hQ]
    exact pfin_pure rfl hL.le
  have h2' : (F64.order b nfarB == some .lt || F64.order b nfarB == some .eq) = false := h2
  obtain ⟨n, hn, hr⟩ := whole_some h0' h1' h2'
  rw [wholeF, if_neg (by rw [h0']; decide), if_neg (by rw [h1']; decide), if_neg (by rw [h2']; decide), hn] at hQ
  refine gor hL ?_; (repeat (clear hL; intro t hL; refine gor hL ?_))
  refine po rfl (show ev _ _ _ = some (.d (.int .i64 n)) from ?_) ?_
  · show (match (FloatKind.f64.decode b).toInt .zero with | some n => if IntKind.i64.min ≤ n ∧ n ≤ IntKind.i64.max then some (AV.d (.int .i64 n)) else none | none => none) = _
    rw [hn]
    exact if_pos ⟨by simp [IntKind.min, IntKind.signed, IntKind.bits]; omega, by simp [IntKind.max, IntKind.signed, IntKind.bits]; omega⟩
  refine gor hL ?_; (repeat (clear hL; intro t hL; refine gor hL ?_))
  rw [← hQ]
  exact pfin_pure rfl hL.le

theorem C20 : ∀ (e : Nat) (T : KT), WT e T → Pure (PCalls Try.prog GG) 20 [T.av] T.rav := by
  intro e
  induction e with
  | zero => intro T h; cases h
  | succ e ih =>
  intro T hw
  have hk := hw.kind_in
  have hpart : ∀ o ∈ T.of, WT e o := fun o ho => hw.part ho
  obtain ⟨hf1, hf2, hf3⟩ := (KT.fit_eq T).1 hw.fit
  have hrl : ∀ k, ∀ r ∈ (T.of.take k).map KT.rrow, r.length = 4 := fun k r hr => by obtain ⟨x, _, rfl⟩ := List.mem_map.1 hr; exact KT.rrow_len x
  simp only [KT.av_eq, KT.rav_eq] at ih ⊢
  intro st; refine pcalls_of k20 e20 (of_decide_eq_true rfl) ?_; dsimp only [c20]; refine pstartL ?_; intro t hL; generalize hQ : pfin _ _ = Q
  (refine gor hL ?_; (repeat (clear hL; intro t hL; refine gor hL ?_))); refine po_boxA hL ?_; clear hL; intro p1 t hL
  (refine gor hL ?_; (repeat (clear hL; intro t hL; refine gor hL ?_))); (with_reducible refine po_allocL hL rfl ?_); clear hL; intro p2 t hL
  refine gor hL ?_; (repeat (clear hL; intro t hL; refine gor hL ?_))
  refine gnm ?_; rw [IntWalk.i64_in T.kind (by omega)]
  refine gor hL ?_; (repeat (clear hL; intro t hL; refine gor hL ?_))
  (refine gor hL ?_; (repeat (clear hL; intro t hL; refine gor hL ?_))); (with_reducible refine po_allocL hL rfl ?_); clear hL; intro p3 t hL
  refine gor hL ?_; (repeat (clear hL; intro t hL; refine gor hL ?_))
  (apply prangeJ (T.of.length) (by omega) (fun k t => ∃ a, Lay st [.box p3 [.d (.int .i64 T.kind), .d (.int .i64 T.most), .d (.int .i64 T.names.length), a], .vec a ((T.of.take k).map KT.rrow) 4, .box p2 [.d (.int .i64 0), .d (.int .i64 0), .d (.int .i64 0), .full []]] t)); (· exact trimA); (· exact fun _ => rfl)
  · replace hL := hL.full [] 4
    exact ⟨.full [], hL.pk⟩
  · rintro t ⟨a, hL⟩
    rw [List.take_length] at hL
    have fa := hL.vk a
    obtain ⟨fa_r, fa_w, fa_w1, fa_c, fa_s, fa_d⟩ := id fa
    refine gor hL ?_; (repeat (clear hL; intro t hL; refine gor hL ?_))
    rw [← hQ]
    refine pwk1 hL ?_
    simp only [pvwk, fa_w1]
  · rintro k hk t ⟨a, hL⟩
    obtain ⟨x, hx, hxm⟩ := elem_at hk
    have fa := hL.vk a
    obtain ⟨fa_r, fa_w, fa_w1, fa_c, fa_s, fa_d⟩ := id fa
    have hi := ih x (hpart x hxm)
    have hr' : ((T.of.take k).map KT.rrow) ++ [x.rrow] = (T.of.take (k + 1)).map KT.rrow := by rw [take_snoc hx, List.map_append]; rfl
    rw [KT.rrow_eq x] at hr'
    refine pblock ?_
    (refine gor hL ?_; (repeat (clear hL; intro t hL; refine gor hL ?_))); (with_reducible refine po_allocL hL rfl ?_); clear hL; intro p5 t hL
    refine gor hL ?_; (repeat (clear hL; intro t hL; refine gor hL ?_))
    refine po_cp (hi) ?_
    refine gor hL ?_; (repeat (clear hL; intro t hL; refine gor hL ?_))
    refine po_appA hL (hrl k) ?_ ?_; (· simp; omega); clear hL; intro a' t f' hL; obtain ⟨f'_r, f'_w, f'_w1, f'_c, f'_s, f'_d⟩ := id f'
    rw [hr'] at hL
    refine gor hL ?_; (repeat (clear hL; intro t hL; refine gor hL ?_))
    exact ⟨⟨a', hL.pk⟩, tr2⟩
end Go.Pv
