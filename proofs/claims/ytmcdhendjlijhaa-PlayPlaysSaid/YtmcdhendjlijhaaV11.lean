/- Functions of the program, by value. No condition. -/
import Derived.Test.YtmcdhendjlijhaaV6
import Derived.Test.YtmcdhendjlijhaaE1
namespace Go.Pv
open Go.Proofs
set_option maxRecDepth 100000
set_option maxHeartbeats 8000000

/-- prompter/prompterlaw08.Ref -/
abbrev c20_4 : PCode :=
 (.region [⟨(.some 22), (.faddr 3 (.t 3)), .none⟩,
   ⟨(.some 23), (.load .false 1 (.t 22) .false), .none⟩,
   ⟨(.some 24), (.load .true 4 (.t 5) .false), .none⟩,
   ⟨(.some 25), (.callp 20 [(.t 24)]), .none⟩,
   ⟨(.some 26), (.bsl 4 [(.t 25)]), .none⟩,
   ⟨(.some 27), (.app 4 48 (.t 23) (.t 26)), .none⟩,
   ⟨(.some 28), (.faddr 3 (.t 3)), .none⟩,
   ⟨.none, (.store 1 (.t 28) (.t 27)), .none⟩])
abbrev c20_3 : PCode :=
 (.block 1 (.seq (.region [⟨(.some 20), (.iaddr 4 (.t 16) (.t 18)), .none⟩,
   ⟨(.some 21), (.load .true 4 (.t 20) .false), .none⟩,
   ⟨(.some 5), (.alloc [(.d (.int .u8 0)), (.d (.int .i64 0)), (.full []), (.full [])]), .none⟩,
   ⟨.none, (.store 4 (.t 5) (.t 21)), .none⟩])
 c20_4))
abbrev c20_2 : PCode :=
 (.keep [2, 3, 16, 17, 18] (.block 0 (.loop (.some [18, 2, 3, 16, 17]) (.seq (.region [⟨(.some 19), (.bin .lss (.t 18) (.t 17)), .none⟩])
 (.seq (.cond (.t 19)
  .skip
  (.exit 0))
 (.seq c20_3
 (.region [⟨(.some 29), (.bin .add (.t 18) (.c (.d (.int .i64 1)))), .none⟩,
   ⟨(.some 18), (.mov (.t 29)), .none⟩])))))))
abbrev c20_5 : PCode :=
 (.seq (.region [⟨(.some 30), (.load .true 4 (.t 3) .false), .none⟩,
   ⟨.none, (.store 4 (.t 2) (.t 30)), .none⟩])
 .ret)
abbrev c20_1 : PCode :=
 (.keep [1, 2, 3] (.seq (.seq (.region [⟨(.some 15), (.faddr 3 (.t 1)), .none⟩,
   ⟨(.some 16), (.load .false 1 (.t 15) .false), .none⟩,
   ⟨(.some 17), (.len (.t 16)), .none⟩,
   ⟨(.some 18), (.mov (.c (.d (.int .i64 0)))), .none⟩])
 c20_2)
 c20_5))
abbrev c20_0 : PCode :=
 (.seq (.region [⟨(.some 6), (.faddr 0 (.t 1)), .none⟩,
   ⟨(.some 7), (.load .false 1 (.t 6) .false), .none⟩,
   ⟨(.some 8), (.cvt .i64 (.t 7)), .none⟩,
   ⟨(.some 9), (.faddr 1 (.t 1)), .none⟩,
   ⟨(.some 10), (.load .false 1 (.t 9) .false), .none⟩,
   ⟨(.some 11), (.faddr 2 (.t 1)), .none⟩,
   ⟨(.some 12), (.load .false 1 (.t 11) .false), .none⟩,
   ⟨(.some 13), (.len (.t 12)), .none⟩,
   ⟨(.some 14), (.bld [(.d (.int .i64 0)), (.d (.int .i64 0)), (.d (.int .i64 0)), (.full [])] [(0, (1, (.t 8))), (1, (1, (.t 10))), (2, (1, (.t 13)))]), .none⟩,
   ⟨(.some 3), (.alloc [(.d (.int .i64 0)), (.d (.int .i64 0)), (.d (.int .i64 0)), (.full [])]), .none⟩,
   ⟨.none, (.store 4 (.t 3) (.t 14)), .none⟩])
 c20_1)
def c20 : PFun := ⟨
 (.seq (.region [⟨(.some 1), (.box 4 (.t 0)), .none⟩,
   ⟨(.some 2), (.alloc [(.d (.int .i64 0)), (.d (.int .i64 0)), (.d (.int .i64 0)), (.full [])]), .none⟩])
 c20_0),
 1, 31, [(.cell 2 .true 4)]⟩

/-- prompter/prompterlaw08.RefValue -/
abbrev c21_4 : PCode :=
 (.region [⟨(.some 20), (.faddr 3 (.t 3)), .none⟩,
   ⟨(.some 21), (.load .false 1 (.t 20) .false), .none⟩,
   ⟨(.some 22), (.load .true 4 (.t 5) .false), .none⟩,
   ⟨(.some 23), (.callp 21 [(.t 22)]), .none⟩,
   ⟨(.some 24), (.bsl 4 [(.t 23)]), .none⟩,
   ⟨(.some 25), (.app 4 56 (.t 21) (.t 24)), .none⟩,
   ⟨(.some 26), (.faddr 3 (.t 3)), .none⟩,
   ⟨.none, (.store 1 (.t 26) (.t 25)), .none⟩])
abbrev c21_3 : PCode :=
 (.block 1 (.seq (.region [⟨(.some 18), (.iaddr 4 (.t 14) (.t 16)), .none⟩,
   ⟨(.some 19), (.load .true 4 (.t 18) .false), .none⟩,
   ⟨(.some 5), (.alloc [(.d (.int .i64 0)), (.d (.flt .f64 0)), (.d (.str (bs []))), (.full [])]), .none⟩,
   ⟨.none, (.store 4 (.t 5) (.t 19)), .none⟩])
 c21_4))
abbrev c21_2 : PCode :=
 (.keep [2, 3, 14, 15, 16] (.block 0 (.loop (.some [16, 2, 3, 14, 15]) (.seq (.region [⟨(.some 17), (.bin .lss (.t 16) (.t 15)), .none⟩])
 (.seq (.cond (.t 17)
  .skip
  (.exit 0))
 (.seq c21_3
 (.region [⟨(.some 27), (.bin .add (.t 16) (.c (.d (.int .i64 1)))), .none⟩,
   ⟨(.some 16), (.mov (.t 27)), .none⟩])))))))
abbrev c21_5 : PCode :=
 (.seq (.region [⟨(.some 28), (.load .true 4 (.t 3) .false), .none⟩,
   ⟨.none, (.store 4 (.t 2) (.t 28)), .none⟩])
 .ret)
abbrev c21_1 : PCode :=
 (.keep [1, 2, 3] (.seq (.seq (.region [⟨(.some 13), (.faddr 3 (.t 1)), .none⟩,
   ⟨(.some 14), (.load .false 1 (.t 13) .false), .none⟩,
   ⟨(.some 15), (.len (.t 14)), .none⟩,
   ⟨(.some 16), (.mov (.c (.d (.int .i64 0)))), .none⟩])
 c21_2)
 c21_5))
abbrev c21_0 : PCode :=
 (.seq (.region [⟨(.some 6), (.faddr 0 (.t 1)), .none⟩,
   ⟨(.some 7), (.load .false 1 (.t 6) .false), .none⟩,
   ⟨(.some 8), (.faddr 1 (.t 1)), .none⟩,
   ⟨(.some 9), (.load .false 1 (.t 8) .false), .none⟩,
   ⟨(.some 10), (.faddr 2 (.t 1)), .none⟩,
   ⟨(.some 11), (.load .false 1 (.t 10) .false), .none⟩,
   ⟨(.some 12), (.bld [(.d (.int .i64 0)), (.d (.flt .f64 0)), (.d (.str (bs []))), (.full [])] [(0, (1, (.t 7))), (1, (1, (.t 9))), (2, (1, (.t 11)))]), .none⟩,
   ⟨(.some 3), (.alloc [(.d (.int .i64 0)), (.d (.flt .f64 0)), (.d (.str (bs []))), (.full [])]), .none⟩,
   ⟨.none, (.store 4 (.t 3) (.t 12)), .none⟩])
 c21_1)
def c21 : PFun := ⟨
 (.seq (.region [⟨(.some 1), (.box 4 (.t 0)), .none⟩,
   ⟨(.some 2), (.alloc [(.d (.int .i64 0)), (.d (.flt .f64 0)), (.d (.str (bs []))), (.full [])]), .none⟩])
 c21_0),
 1, 29, [(.cell 2 .true 4)]⟩

/-- prompter/prompterlaw08.Of -/
abbrev c25_4 : PCode :=
 (.region [⟨(.some 20), (.faddr 3 (.t 3)), .none⟩,
   ⟨(.some 21), (.load .false 1 (.t 20) .false), .none⟩,
   ⟨(.some 22), (.load .true 4 (.t 5) .false), .none⟩,
   ⟨(.some 23), (.callp 25 [(.t 22)]), .none⟩,
   ⟨(.some 24), (.bsl 4 [(.t 23)]), .none⟩,
   ⟨(.some 25), (.app 4 56 (.t 21) (.t 24)), .none⟩,
   ⟨(.some 26), (.faddr 3 (.t 3)), .none⟩,
   ⟨.none, (.store 1 (.t 26) (.t 25)), .none⟩])
abbrev c25_3 : PCode :=
 (.block 1 (.seq (.region [⟨(.some 18), (.iaddr 4 (.t 14) (.t 16)), .none⟩,
   ⟨(.some 19), (.load .true 4 (.t 18) .false), .none⟩,
   ⟨(.some 5), (.alloc [(.d (.int .i64 0)), (.d (.flt .f64 0)), (.d (.str (bs []))), (.full [])]), .none⟩,
   ⟨.none, (.store 4 (.t 5) (.t 19)), .none⟩])
 c25_4))
abbrev c25_2 : PCode :=
 (.keep [2, 3, 14, 15, 16] (.block 0 (.loop (.some [16, 2, 3, 14, 15]) (.seq (.region [⟨(.some 17), (.bin .lss (.t 16) (.t 15)), .none⟩])
 (.seq (.cond (.t 17)
  .skip
  (.exit 0))
 (.seq c25_3
 (.region [⟨(.some 27), (.bin .add (.t 16) (.c (.d (.int .i64 1)))), .none⟩,
   ⟨(.some 16), (.mov (.t 27)), .none⟩])))))))
abbrev c25_5 : PCode :=
 (.seq (.region [⟨(.some 28), (.load .true 4 (.t 3) .false), .none⟩,
   ⟨.none, (.store 4 (.t 2) (.t 28)), .none⟩])
 .ret)
abbrev c25_1 : PCode :=
 (.keep [1, 2, 3] (.seq (.seq (.region [⟨(.some 13), (.faddr 3 (.t 1)), .none⟩,
   ⟨(.some 14), (.load .false 1 (.t 13) .false), .none⟩,
   ⟨(.some 15), (.len (.t 14)), .none⟩,
   ⟨(.some 16), (.mov (.c (.d (.int .i64 0)))), .none⟩])
 c25_2)
 c25_5))
abbrev c25_0 : PCode :=
 (.seq (.region [⟨(.some 6), (.faddr 0 (.t 1)), .none⟩,
   ⟨(.some 7), (.load .false 1 (.t 6) .false), .none⟩,
   ⟨(.some 8), (.faddr 1 (.t 1)), .none⟩,
   ⟨(.some 9), (.load .false 1 (.t 8) .false), .none⟩,
   ⟨(.some 10), (.faddr 2 (.t 1)), .none⟩,
   ⟨(.some 11), (.load .false 1 (.t 10) .false), .none⟩,
   ⟨(.some 12), (.bld [(.d (.int .i64 0)), (.d (.flt .f64 0)), (.d (.str (bs []))), (.full [])] [(0, (1, (.t 7))), (1, (1, (.t 9))), (2, (1, (.t 11)))]), .none⟩,
   ⟨(.some 3), (.alloc [(.d (.int .i64 0)), (.d (.flt .f64 0)), (.d (.str (bs []))), (.full [])]), .none⟩,
   ⟨.none, (.store 4 (.t 3) (.t 12)), .none⟩])
 c25_1)
def c25 : PFun := ⟨
 (.seq (.region [⟨(.some 1), (.box 4 (.t 0)), .none⟩,
   ⟨(.some 2), (.alloc [(.d (.int .i64 0)), (.d (.flt .f64 0)), (.d (.str (bs []))), (.full [])]), .none⟩])
 c25_0),
 1, 29, [(.cell 2 .true 4)]⟩

/-- prompter/prompterref01.Whole -/
abbrev c43_2 : PCode :=
 (.seq (.region [⟨(.some 2), (.mov (.c (.d (.int .i64 0)))), .none⟩])
 .ret)
abbrev c43_1 : PCode :=
 (.cond (.t 5)
  c43_2
  .skip)
abbrev c43_5 : PCode :=
 (.seq (.region [⟨(.some 2), (.mov (.c (.d (.int .i64 2147483648)))), .none⟩])
 .ret)
abbrev c43_4 : PCode :=
 (.cond (.t 7)
  c43_5
  .skip)
abbrev c43_8 : PCode :=
 (.seq (.region [⟨(.some 2), (.mov (.c (.d (.int .i64 (-2147483648))))), .none⟩])
 .ret)
abbrev c43_7 : PCode :=
 (.cond (.t 9)
  c43_8
  .skip)
abbrev c43_9 : PCode :=
 (.keep [0] (.seq (.region [⟨(.some 10), (.mov (.t 0)), .none⟩,
   ⟨(.some 11), (.cvtI .i64 (.t 10)), .none⟩,
   ⟨(.some 2), (.mov (.t 11)), .none⟩])
 .ret))
abbrev c43_6 : PCode :=
 (.keep [0] (.seq (.seq (.region [⟨(.some 8), (.mov (.t 0)), .none⟩,
   ⟨(.some 9), (.bin .leq (.t 8) (.c (.d (.flt .f64 13970166044103278592)))), .none⟩])
 c43_7)
 c43_9))
abbrev c43_3 : PCode :=
 (.keep [0] (.seq (.seq (.region [⟨(.some 6), (.mov (.t 0)), .none⟩,
   ⟨(.some 7), (.bin .geq (.t 6) (.c (.d (.flt .f64 4746794007248502784)))), .none⟩])
 c43_4)
 c43_6))
abbrev c43_0 : PCode :=
 (.seq (.seq (.region [⟨(.some 3), (.mov (.t 0)), .none⟩,
   ⟨(.some 4), (.mov (.t 0)), .none⟩,
   ⟨(.some 5), (.bin .neq (.t 3) (.t 4)), .none⟩])
 c43_1)
 c43_3)
def c43 : PFun := ⟨
 (.seq (.region [⟨(.some 2), (.mov (.c (.d (.int .i64 0)))), .none⟩])
 c43_0),
 1, 12, [(.tmp 2)]⟩

theorem e20 : entered Try.prog 20 = true := by kernel_rfl
theorem k20 : compFun Try.prog (fun i => if i = 5 then 1 else 0) 20 = some c20.er := by kernel_rfl
theorem e21 : entered Try.prog 21 = true := by kernel_rfl
theorem k21 : compFun Try.prog (fun i => if i = 5 then 1 else 0) 21 = some c21.er := by kernel_rfl
theorem e25 : entered Try.prog 25 = true := by kernel_rfl
theorem k25 : compFun Try.prog (fun i => if i = 5 then 1 else 0) 25 = some c25.er := by kernel_rfl
theorem e43 : entered Try.prog 43 = true := by kernel_rfl
theorem k43 : compFun Try.prog (fun _ => 0) 43 = some c43.er := by kernel_rfl


theorem C21 (v : VT) : v.fit → Pure (PCalls Try.prog GG) 21 [v.av] v.av := by
  induction v using VT.ind with
  | h n f s o ih =>
  intro hf
  have hl := hf.len
  have hpart : ∀ x ∈ o, x.fit := fun x hx => hf.part hx
  simp only [VT.av_eq, VT.pj] at ih hl ⊢
  have hrl : ∀ k, ∀ r ∈ (o.take k).map VT.row, r.length = 4 := fun k r hr => by obtain ⟨x, _, rfl⟩ := List.mem_map.1 hr; exact VT.row_len x
  intro st; refine pcalls_of k21 e21 (of_decide_eq_true rfl) ?_; dsimp only [c21]; refine pstartL ?_; intro t hL; generalize hQ : pfin _ _ = Q
  (refine gor hL ?_; (repeat (clear hL; intro t hL; refine gor hL ?_))); refine po_boxA hL ?_; clear hL; intro p1 t hL
  (refine gor hL ?_; (repeat (clear hL; intro t hL; refine gor hL ?_))); (with_reducible refine po_allocL hL rfl ?_); clear hL; intro p2 t hL
  refine gor hL ?_; (repeat (clear hL; intro t hL; refine gor hL ?_))
  (refine gor hL ?_; (repeat (clear hL; intro t hL; refine gor hL ?_))); (with_reducible refine po_allocL hL rfl ?_); clear hL; intro p3 t hL
  refine gor hL ?_; (repeat (clear hL; intro t hL; refine gor hL ?_))
  (apply prangeJ (o.length) (by omega) (fun k t => ∃ a, Lay st [.box p3 [.d (.int .i64 n), .d (.flt .f64 f), .d (.str s), a], .vec a ((o.take k).map VT.row) 4, .box p2 [.d (.int .i64 0), .d (.flt .f64 0), .d (.str (bs [])), .full []]] t)); (· exact trimA); (· exact fun _ => rfl)
  · replace hL := hL.full [] 4
    exact ⟨.full [], hL.pk⟩
  · rintro t ⟨a, hL⟩
    rw [List.take_length] at hL
    have fa := hL.vk a
    obtain ⟨fa_r, fa_w, fa_w1, fa_c, fa_s, fa_d⟩ := id fa
    refine gor hL ?_; (repeat (clear hL; intro t hL; refine gor hL ?_))
    rw [← hQ]
    refine pwk1 hL ?_
    simp only [pvwk, fa_w1]
  · rintro k hk t ⟨a, hL⟩
    obtain ⟨x, hx, hxm⟩ := elem_at hk
    have fa := hL.vk a
    obtain ⟨fa_r, fa_w, fa_w1, fa_c, fa_s, fa_d⟩ := id fa
    have hi := ih x hxm (hpart x hxm)
    have hr' : ((o.take k).map VT.row) ++ [x.row] = (o.take (k + 1)).map VT.row := by rw [take_snoc hx, List.map_append]; rfl
    rw [VT.row_eq x] at hr'
    simp only [VT.cs] at hr'
    refine pblock ?_
    (refine gor hL ?_; (repeat (clear hL; intro t hL; refine gor hL ?_))); (with_reducible refine po_allocL hL rfl ?_); clear hL; intro p5 t hL
    refine gor hL ?_; (repeat (clear hL; intro t hL; refine gor hL ?_))
    refine po_cp (hi) ?_
    refine gor hL ?_; (repeat (clear hL; intro t hL; refine gor hL ?_))
    refine po_appA hL (hrl k) ?_ ?_; (· simp; omega); clear hL; intro a' t f' hL; obtain ⟨f'_r, f'_w, f'_w1, f'_c, f'_s, f'_d⟩ := id f'
    rw [hr'] at hL
    refine gor hL ?_; (repeat (clear hL; intro t hL; refine gor hL ?_))
    exact ⟨⟨a', hL.pk⟩, tr2⟩

theorem C25 (v : VT) : v.fit → Pure (PCalls Try.prog GG) 25 [v.av] v.av := by
  induction v using VT.ind with
  | h n f s o ih =>
  intro hf
  have hl := hf.len
  have hpart : ∀ x ∈ o, x.fit := fun x hx => hf.part hx
  simp only [VT.av_eq, VT.pj] at ih hl ⊢
  have hrl : ∀ k, ∀ r ∈ (o.take k).map VT.row, r.length = 4 := fun k r hr => by obtain ⟨x, _, rfl⟩ := List.mem_map.1 hr; exact VT.row_len x
  intro st; refine pcalls_of k25 e25 (of_decide_eq_true rfl) ?_; dsimp only [c25]; refine pstartL ?_; intro t hL; generalize hQ : pfin _ _ = Q
  (refine gor hL ?_; (repeat (clear hL; intro t hL; refine gor hL ?_))); refine po_boxA hL ?_; clear hL; intro p1 t hL
  (refine gor hL ?_; (repeat (clear hL; intro t hL; refine gor hL ?_))); (with_reducible refine po_allocL hL rfl ?_); clear hL; intro p2 t hL
  refine gor hL ?_; (repeat (clear hL; intro t hL; refine gor hL ?_))
  (refine gor hL ?_; (repeat (clear hL; intro t hL; refine gor hL ?_))); (with_reducible refine po_allocL hL rfl ?_); clear hL; intro p3 t hL
  refine gor hL ?_; (repeat (clear hL; intro t hL; refine gor hL ?_))
  (apply prangeJ (o.length) (by omega) (fun k t => ∃ a, Lay st [.box p3 [.d (.int .i64 n), .d (.flt .f64 f), .d (.str s), a], .vec a ((o.take k).map VT.row) 4, .box p2 [.d (.int .i64 0), .d (.flt .f64 0), .d (.str (bs [])), .full []]] t)); (· exact trimA); (· exact fun _ => rfl)
  · replace hL := hL.full [] 4
    exact ⟨.full [], hL.pk⟩
  · rintro t ⟨a, hL⟩
    rw [List.take_length] at hL
    have fa := hL.vk a
    obtain ⟨fa_r, fa_w, fa_w1, fa_c, fa_s, fa_d⟩ := id fa
    refine gor hL ?_; (repeat (clear hL; intro t hL; refine gor hL ?_))
    rw [← hQ]
    refine pwk1 hL ?_
    simp only [pvwk, fa_w1]
  · rintro k hk t ⟨a, hL⟩
    obtain ⟨x, hx, hxm⟩ := elem_at hk
    have fa := hL.vk a
    obtain ⟨fa_r, fa_w, fa_w1, fa_c, fa_s, fa_d⟩ := id fa
    have hi := ih x hxm (hpart x hxm)
    have hr' : ((o.take k).map VT.row) ++ [x.row] = (o.take (k + 1)).map VT.row := by rw [take_snoc hx, List.map_append]; rfl
    rw [VT.row_eq x] at hr'
    simp only [VT.cs] at hr'
    refine pblock ?_
    (refine gor hL ?_; (repeat (clear hL; intro t hL; refine gor hL ?_))); (with_reducible refine po_allocL hL rfl ?_); clear hL; intro p5 t hL
    refine gor hL ?_; (repeat (clear hL; intro t hL; refine gor hL ?_))
    refine po_cp (hi) ?_
    refine gor hL ?_; (repeat (clear hL; intro t hL; refine gor hL ?_))
    refine po_appA hL (hrl k) ?_ ?_; (· simp; omega); clear hL; intro a' t f' hL; obtain ⟨f'_r, f'_w, f'_w1, f'_c, f'_s, f'_d⟩ := id f'
    rw [hr'] at hL
    refine gor hL ?_; (repeat (clear hL; intro t hL; refine gor hL ?_))
    exact ⟨⟨a', hL.pk⟩, tr2⟩


theorem C43 (b : Nat) : Pure (PCalls Try.prog GG) 43 [.d (.flt .f64 b)] (.d (.int .i64 (wholeF b))) := by
  intro st; refine pcalls_of k43 e43 (of_decide_eq_true rfl) ?_; dsimp only [c43]; refine pstartL ?_; intro t hL; generalize hQ : pfin _ _ = Q
  refine gor hL ?_; (repeat (clear hL; intro t hL; refine gor hL ?_))
  refine pcond_b rfl (fun h0 => ?_) (fun h0 => ?_)
  · rw [wholeF, if_pos h0] at hQ
    refine gor hL ?_; (repeat (clear hL; intro t hL; refine gor hL ?_))
    rw [← hQ]
    exact pfin_pure rfl hL.le
  have h0' : (F64.order b b != some .eq) = false := h0
  refine gor hL ?_; (repeat (clear hL; intro t hL; refine gor hL ?_))
  refine pcond_b rfl (fun h1 => ?_) (fun h1 => ?_)
  · rw [wholeF, if_neg (by rw [h0']; decide), if_pos h1] at hQ
    refine gor hL ?_; (repeat (clear hL; intro t hL; refine gor hL ?_))
    rw [← hQ]
    exact pfin_pure rfl hL.le
  have h1' : (F64.order b farB == some .gt || F64.order b farB == some .eq) = false := h1
  refine gor hL ?_; (repeat (clear hL; intro t hL; refine gor hL ?_))
  refine pcond_b rfl (fun h2 => ?_) (fun h2 => ?_)
  · rw [wholeF, if_neg (by rw [h0']; decide), if_neg (by rw [h1']; decide), if_pos h2] at hQ
    refine gor hL ?_; (repeat (clear hL; intro t hL; refine gor hL ?_))
    rw [← hQ]
    exact pfin_pure rfl hL.le
  have h2' : (F64.order b nfarB == some .lt || F64.order b nfarB == some .eq) = false := h2
  obtain ⟨n, hn, hr⟩ := whole_some h0' h1' h2'
  rw [wholeF, if_neg (by rw [h0']; decide), if_neg (by rw [h1']; decide), if_neg (by rw [h2']; decide), hn] at hQ
  refine gor hL ?_; (repeat (clear hL; intro t hL; refine gor hL ?_))
  refine po rfl (show ev _ _ _ = some (.d (.int .i64 n)) from ?_) ?_
  · show (match (FloatKind.f64.decode b).toInt .zero with | some n => if IntKind.i64.min ≤ n ∧ n ≤ IntKind.i64.max then some (AV.d (.int .i64 n)) else none | none => none) = _
    rw [hn]
    exact if_pos ⟨by simp [IntKind.min, IntKind.signed, IntKind.bits]; omega, by simp [IntKind.max, IntKind.signed, IntKind.bits]; omega⟩
  refine gor hL ?_; (repeat (clear hL; intro t hL; refine gor hL ?_))
  rw [← hQ]
  exact pfin_pure rfl hL.le

theorem C20 : ∀ (e : Nat) (T : KT), WT e T → Pure (PCalls Try.prog GG) 20 [T.av] T.rav := by
  intro e
  induction e with
  | zero => intro T h; cases h
  | succ e ih =>
  intro T hw
  have hk := hw.kind_in
  have hpart : ∀ o ∈ T.of, WT e o := fun o ho => hw.part ho
  obtain ⟨hf1, hf2, hf3⟩ := (KT.fit_eq T).1 hw.fit
  have hrl : ∀ k, ∀ r ∈ (T.of.take k).map KT.rrow, r.length = 4 := fun k r hr => by obtain ⟨x, _, rfl⟩ := List.mem_map.1 hr; exact KT.rrow_len x
  simp only [KT.av_eq, KT.rav_eq] at ih ⊢
  intro st; refine pcalls_of k20 e20 (of_decide_eq_true rfl) ?_; dsimp only [c20]; refine pstartL ?_; intro t hL; generalize hQ : pfin _ _ = Q
  (refine gor hL ?_; (repeat (clear hL; intro t hL; refine gor hL ?_))); refine po_boxA hL ?_; clear hL; intro p1 t hL
  (refine gor hL ?_; (repeat (clear hL; intro t hL; refine gor hL ?_))); (with_reducible refine po_allocL hL rfl ?_); clear hL; intro p2 t hL
  refine gor hL ?_; (repeat (clear hL; intro t hL; refine gor hL ?_))
  refine gnm ?_; rw [IntWalk.i64_in T.kind (by omega)]
  refine gor hL ?_; (repeat (clear hL; intro t hL; refine gor hL ?_))
  (refine gor hL ?_; (repeat (clear hL; intro t hL; refine gor hL ?_))); (with_reducible refine po_allocL hL rfl ?_); clear hL; intro p3 t hL
  refine gor hL ?_; (repeat (clear hL; intro t hL; refine gor hL ?_))
  (apply prangeJ (T.of.length) (by omega) (fun k t => ∃ a, Lay st [.box p3 [.d (.int .i64 T.kind), .d (.int .i64 T.most), .d (.int .i64 T.names.length), a], .vec a ((T.of.take k).map KT.rrow) 4, .box p2 [.d (.int .i64 0), .d (.int .i64 0), .d (.int .i64 0), .full []]] t)); (· exact trimA); (· exact fun _ => rfl)
  · replace hL := hL.full [] 4
    exact ⟨.full [], hL.pk⟩
  · rintro t ⟨a, hL⟩
    rw [List.take_length] at hL
    have fa := hL.vk a
    obtain ⟨fa_r, fa_w, fa_w1, fa_c, fa_s, fa_d⟩ := id fa
    refine gor hL ?_; (repeat (clear hL; intro t hL; refine gor hL ?_))
    rw [← hQ]
    refine pwk1 hL ?_
    simp only [pvwk, fa_w1]
  · rintro k hk t ⟨a, hL⟩
    obtain ⟨x, hx, hxm⟩ := elem_at hk
    have fa := hL.vk a
    obtain ⟨fa_r, fa_w, fa_w1, fa_c, fa_s, fa_d⟩ := id fa
    have hi := ih x (hpart x hxm)
    have hr' : ((T.of.take k).map KT.rrow) ++ [x.rrow] = (T.of.take (k + 1)).map KT.rrow := by rw [take_snoc hx, List.map_append]; rfl
    rw [KT.rrow_eq x] at hr'
    refine pblock ?_
    (refine gor hL ?_; (repeat (clear hL; intro t hL; refine gor hL ?_))); (with_reducible refine po_allocL hL rfl ?_); clear hL; intro p5 t hL
    refine gor hL ?_; (repeat (clear hL; intro t hL; refine gor hL ?_))
    refine po_cp (hi) ?_
    refine gor hL ?_; (repeat (clear hL; intro t hL; refine gor hL ?_))
    refine po_appA hL (hrl k) ?_ ?_; (· simp; omega); clear hL; intro a' t f' hL; obtain ⟨f'_r, f'_w, f'_w1, f'_c, f'_s, f'_d⟩ := id f'
    rw [hr'] at hL
    refine gor hL ?_; (repeat (clear hL; intro t hL; refine gor hL ?_))
    exact ⟨⟨a', hL.pk⟩, tr2⟩
end Go.Pv
namespace Go.Pv
open Go.Proofs
set_option maxRecDepth 100000
set_option maxHeartbeats 8000000

/-- prompter/prompterref08.next -/
abbrev c44_2 : PCode :=
 (.seq (.region [⟨(.some 4), (.mov (.c (.d (.int .i64 0)))), .none⟩])
 .ret)
abbrev c44_1 : PCode :=
 (.cond (.t 11)
  c44_2
  .skip)
abbrev c44_8 : PCode :=
 (.region [⟨(.some 40), (.mov (.t 5)), .none⟩,
   ⟨(.some 41), (.mov (.t 1)), .none⟩,
   ⟨(.some 42), (.bin .add (.t 40) (.t 41)), .none⟩,
   ⟨(.some 5), (.mov (.t 42)), .none⟩])
abbrev c44_7 : PCode :=
 (.cond (.t 39)
  c44_8
  .skip)
abbrev c44_9 : PCode :=
 (.keep [5] (.seq (.region [⟨(.some 43), (.mov (.t 5)), .none⟩,
   ⟨(.some 4), (.mov (.t 43)), .none⟩])
 .ret))
abbrev c44_6 : PCode :=
 (.keep [1, 5] (.seq (.seq (.region [⟨(.some 38), (.mov (.t 5)), .none⟩,
   ⟨(.some 39), (.bin .lss (.t 38) (.c (.d (.int .i64 0)))), .none⟩])
 c44_7)
 c44_9))
abbrev c44_5 : PCode :=
 (.keep [1, 5] (.seq (.region [⟨(.some 35), (.mov (.t 5)), .none⟩,
   ⟨(.some 36), (.mov (.t 1)), .none⟩,
   ⟨(.some 37), (.bin .rem (.t 35) (.t 36)), .none⟩,
   ⟨(.some 5), (.mov (.t 37)), .none⟩])
 c44_6))
abbrev c44_4 : PCode :=
 (.keep [0, 1, 5] (.seq (.region [⟨(.some 28), (.mov (.t 0)), .none⟩,
   ⟨(.some 29), (.nilchk (.t 28)), .none⟩,
   ⟨(.some 30), (.faddr 1 (.t 29)), .none⟩,
   ⟨(.some 31), (.load .false 1 (.t 30) .false), .none⟩,
   ⟨(.some 32), (.bin .add (.t 31) (.c (.d (.int .i64 1)))), .none⟩,
   ⟨(.some 33), (.nilchk (.t 28)), .none⟩,
   ⟨(.some 34), (.faddr 1 (.t 33)), .none⟩,
   ⟨.none, (.store 1 (.t 34) (.t 32)), .none⟩])
 c44_5))
abbrev c44_3 : PCode :=
 (.keep [0, 1] (.seq (.region [⟨(.some 12), (.mov (.t 0)), .none⟩,
   ⟨(.some 13), (.nilchk (.t 12)), .none⟩,
   ⟨(.some 14), (.faddr 0 (.t 13)), .none⟩,
   ⟨(.some 15), (.load .false 1 (.t 14) .false), .none⟩,
   ⟨(.some 16), (.mov (.t 0)), .none⟩,
   ⟨(.some 17), (.nilchk (.t 16)), .none⟩,
   ⟨(.some 18), (.faddr 1 (.t 17)), .none⟩,
   ⟨(.some 19), (.load .false 1 (.t 18) .false), .none⟩,
   ⟨(.some 20), (.mov (.t 0)), .none⟩,
   ⟨(.some 21), (.nilchk (.t 20)), .none⟩,
   ⟨(.some 22), (.faddr 0 (.t 21)), .none⟩,
   ⟨(.some 23), (.load .false 1 (.t 22) .false), .none⟩,
   ⟨(.some 24), (.len (.t 23)), .none⟩,
   ⟨(.some 25), (.bin .rem (.t 19) (.t 24)), .none⟩,
   ⟨(.some 26), (.iaddr 1 (.t 15) (.t 25)), .none⟩,
   ⟨(.some 27), (.load .false 1 (.t 26) .false), .none⟩,
   ⟨(.some 5), (.mov (.t 27)), .none⟩])
 c44_4))
abbrev c44_0 : PCode :=
 (.seq (.seq (.region [⟨(.some 6), (.mov (.t 0)), .none⟩,
   ⟨(.some 7), (.nilchk (.t 6)), .none⟩,
   ⟨(.some 8), (.faddr 0 (.t 7)), .none⟩,
   ⟨(.some 9), (.load .false 1 (.t 8) .false), .none⟩,
   ⟨(.some 10), (.len (.t 9)), .none⟩,
   ⟨(.some 11), (.bin .eql (.t 10) (.c (.d (.int .i64 0)))), .none⟩])
 c44_1)
 c44_3)
def c44 : PFun := ⟨
 (.seq (.region [⟨(.some 4), (.mov (.c (.d (.int .i64 0)))), .none⟩])
 c44_0),
 2, 44, [(.tmp 4)]⟩

/-- prompter/prompterref08.Flat -/
abbrev c19_2 : PCode :=
 (.seq (.region [⟨(.some 11), (.faddr 1 (.t 3)), .none⟩,
   ⟨(.some 12), (.load .false 1 (.t 11) .false), .none⟩,
   ⟨(.some 13), (.call0 43 [(.t 12)]), .none⟩,
   ⟨(.some 14), (.bsl 1 [(.t 13)]), .none⟩,
   ⟨(.some 4), (.mov (.t 14)), .none⟩])
 .ret)
abbrev c19_1 : PCode :=
 (.cond (.t 10)
  c19_2
  .skip)
abbrev c19_5 : PCode :=
 (.seq (.region [⟨(.some 18), (.faddr 2 (.t 3)), .none⟩,
   ⟨(.some 19), (.load .false 1 (.t 18) .false), .none⟩,
   ⟨(.some 20), (.lenS (.t 19)), .none⟩,
   ⟨(.some 21), (.bsl 1 [(.t 20)]), .none⟩,
   ⟨(.some 4), (.mov (.t 21)), .none⟩])
 .ret)
abbrev c19_4 : PCode :=
 (.cond (.t 17)
  c19_5
  .skip)
abbrev c19_9 : PCode :=
 (.region [⟨(.some 25), (.mov (.t 5)), .none⟩,
   ⟨(.some 26), (.faddr 3 (.t 3)), .none⟩,
   ⟨(.some 27), (.load .false 1 (.t 26) .false), .none⟩,
   ⟨(.some 28), (.len (.t 27)), .none⟩,
   ⟨(.some 29), (.bsl 1 [(.t 28)]), .none⟩,
   ⟨(.some 30), (.app 1 8 (.t 25) (.t 29)), .none⟩,
   ⟨(.some 5), (.mov (.t 30)), .none⟩])
abbrev c19_8 : PCode :=
 (.cond (.t 24)
  c19_9
  .skip)
abbrev c19_12 : PCode :=
 (.region [⟨(.some 39), (.mov (.t 5)), .none⟩,
   ⟨(.some 40), (.faddr 0 (.t 3)), .none⟩,
   ⟨(.some 41), (.load .false 1 (.t 40) .false), .none⟩,
   ⟨(.some 42), (.bsl 1 [(.t 41)]), .none⟩,
   ⟨(.some 43), (.app 1 8 (.t 39) (.t 42)), .none⟩,
   ⟨(.some 5), (.mov (.t 43)), .none⟩])
abbrev c19_11 : PCode :=
 (.cond (.t 38)
  c19_12
  .skip)
abbrev c19_16 : PCode :=
 (.exit 0)
abbrev c19_15 : PCode :=
 (.cond (.t 48)
  .skip
  c19_16)
abbrev c19_20 : PCode :=
 (.region [⟨(.some 54), (.mov (.t 6)), .none⟩,
   ⟨(.some 7), (.mov (.t 54)), .none⟩])
abbrev c19_19 : PCode :=
 (.cond (.t 53)
  c19_20
  .skip)
abbrev c19_23 : PCode :=
 (.region [⟨(.some 58), (.faddr 0 (.t 3)), .none⟩,
   ⟨(.some 59), (.load .false 1 (.t 58) .false), .none⟩,
   ⟨(.some 7), (.mov (.t 59)), .none⟩])
abbrev c19_22 : PCode :=
 (.cond (.t 57)
  c19_23
  .skip)
abbrev c19_24 : PCode :=
 (.region [⟨(.some 60), (.mov (.t 5)), .none⟩,
   ⟨(.some 61), (.faddr 3 (.t 2)), .none⟩,
   ⟨(.some 62), (.load .false 1 (.t 61) .false), .none⟩,
   ⟨(.some 63), (.mov (.t 7)), .none⟩,
   ⟨(.some 64), (.iaddr 4 (.t 62) (.t 63)), .none⟩,
   ⟨(.some 65), (.load .true 4 (.t 64) .false), .none⟩,
   ⟨(.some 66), (.faddr 3 (.t 3)), .none⟩,
   ⟨(.some 67), (.load .false 1 (.t 66) .false), .none⟩,
   ⟨(.some 68), (.mov (.t 6)), .none⟩,
   ⟨(.some 69), (.iaddr 4 (.t 67) (.t 68)), .none⟩,
   ⟨(.some 70), (.load .true 4 (.t 69) .false), .none⟩,
   ⟨(.some 71), (.call0 19 [(.t 65), (.t 70)]), .none⟩,
   ⟨(.some 72), (.app 1 8 (.t 60) (.t 71)), .none⟩,
   ⟨(.some 5), (.mov (.t 72)), .none⟩])
abbrev c19_21 : PCode :=
 (.keep [2, 3, 5, 6, 7] (.seq (.seq (.region [⟨(.some 55), (.faddr 0 (.t 2)), .none⟩,
   ⟨(.some 56), (.load .false 1 (.t 55) .false), .none⟩,
   ⟨(.some 57), (.bin .eql (.t 56) (.c (.d (.int .i64 8)))), .none⟩])
 c19_22)
 c19_24))
abbrev c19_18 : PCode :=
 (.seq (.seq (.region [⟨(.some 51), (.faddr 0 (.t 2)), .none⟩,
   ⟨(.some 52), (.load .false 1 (.t 51) .false), .none⟩,
   ⟨(.some 53), (.bin .eql (.t 52) (.c (.d (.int .i64 6)))), .none⟩])
 c19_19)
 c19_21)
abbrev c19_25 : PCode :=
 (.region [⟨(.some 49), (.mov (.t 6)), .none⟩,
   ⟨(.some 50), (.bin .add (.t 49) (.c (.d (.int .i64 1)))), .none⟩,
   ⟨(.some 6), (.mov (.t 50)), .none⟩])
abbrev c19_17 : PCode :=
 (.seq (.block 1 (.seq (.region [⟨(.some 7), (.mov (.c (.d (.int .i64 0)))), .none⟩])
 c19_18))
 c19_25)
abbrev c19_14 : PCode :=
 (.block 0 (.loop (.some [5, 6, 2, 3]) (.seq (.seq (.region [⟨(.some 44), (.mov (.t 6)), .none⟩,
   ⟨(.some 45), (.faddr 3 (.t 3)), .none⟩,
   ⟨(.some 46), (.load .false 1 (.t 45) .false), .none⟩,
   ⟨(.some 47), (.len (.t 46)), .none⟩,
   ⟨(.some 48), (.bin .lss (.t 44) (.t 47)), .none⟩])
 c19_15)
 c19_17)))
abbrev c19_26 : PCode :=
 (.seq (.region [⟨(.some 73), (.mov (.t 5)), .none⟩,
   ⟨(.some 4), (.mov (.t 73)), .none⟩])
 .ret)
abbrev c19_13 : PCode :=
 (.keep [2, 3, 5] (.seq (.seq (.region [⟨(.some 6), (.mov (.c (.d (.int .i64 0)))), .none⟩])
 c19_14)
 c19_26))
abbrev c19_10 : PCode :=
 (.keep [2, 3, 5] (.seq (.seq (.region [⟨(.some 31), (.faddr 0 (.t 2)), .none⟩,
   ⟨(.some 32), (.load .false 1 (.t 31) .false), .none⟩,
   ⟨(.some 33), (.bin .lss (.t 32) (.c (.d (.int .i64 3)))), .none⟩,
   ⟨(.some 34), (.mov (.t 33)), .none⟩,
   ⟨(.some 35), (.faddr 0 (.t 2)), (.some (34, .false))⟩,
   ⟨(.some 36), (.load .false 1 (.t 35) .false), (.some (34, .false))⟩,
   ⟨(.some 37), (.bin .gtr (.t 36) (.c (.d (.int .i64 6)))), (.some (34, .false))⟩,
   ⟨(.some 38), (.pick (.t 34) (.c (.d (.bool .true))) (.t 37)), .none⟩])
 c19_11)
 c19_13))
abbrev c19_7 : PCode :=
 (.seq (.seq (.region [⟨(.some 22), (.faddr 0 (.t 2)), .none⟩,
   ⟨(.some 23), (.load .false 1 (.t 22) .false), .none⟩,
   ⟨(.some 24), (.bin .eql (.t 23) (.c (.d (.int .i64 5)))), .none⟩])
 c19_8)
 c19_10)
abbrev c19_6 : PCode :=
 (.keep [2, 3] (.seq (.region [⟨(.some 5), (.mov (.c (.full []))), .none⟩])
 c19_7))
abbrev c19_3 : PCode :=
 (.keep [2, 3] (.seq (.seq (.region [⟨(.some 15), (.faddr 0 (.t 2)), .none⟩,
   ⟨(.some 16), (.load .false 1 (.t 15) .false), .none⟩,
   ⟨(.some 17), (.bin .eql (.t 16) (.c (.d (.int .i64 4)))), .none⟩])
 c19_4)
 c19_6))
abbrev c19_0 : PCode :=
 (.keep [2, 3] (.seq (.seq (.region [⟨(.some 8), (.faddr 0 (.t 2)), .none⟩,
   ⟨(.some 9), (.load .false 1 (.t 8) .false), .none⟩,
   ⟨(.some 10), (.bin .eql (.t 9) (.c (.d (.int .i64 3)))), .none⟩])
 c19_1)
 c19_3))
def c19 : PFun := ⟨
 (.seq (.region [⟨(.some 2), (.box 4 (.t 0)), .none⟩,
   ⟨(.some 3), (.box 4 (.t 1)), .none⟩,
   ⟨(.some 4), (.mov (.c (.full []))), .none⟩])
 c19_0),
 2, 74, [(.tmp 4)]⟩

theorem e44 : entered Try.prog 44 = true := by kernel_rfl
theorem k44 : compFun Try.prog (fun _ => 0) 44 = some c44.er := by kernel_rfl
theorem e19 : entered Try.prog 19 = true := by kernel_rfl
theorem k19 : compFun Try.prog (fun _ => 0) 19 = some c19.er := by kernel_rfl


theorem nextRC (l : List Int) (hl : l.length < 2 ^ 40) (hr : ∀ x ∈ l, -9223372036854775808 ≤ x ∧ x ≤ 9223372036854775807) (a : Nat) (ha : a < 2 ^ 61) (many : Int) (hm : 0 < many ∧ many ≤ 4611686018427387904) (c : AV) (pm : Nat) :
    CL (PCalls Try.prog GG) 44 [ptrAt pm, .d (.int .i64 many)] [.box pm [.d (i64s l), i64 a, c]] (fun _ : Unit => .d (.int .i64 (nextN l a % many))) (fun _ => [.box pm [.d (i64s l), i64 (nextA l a), c]]) := by
  refine ⟨fun N => ⟨(), fun x hx => ?_, by simp⟩, ?_⟩
  · rw [List.mem_singleton.1 hx]
    exact .inl ⟨_, List.mem_cons_self, _, rfl⟩
  intro st t hL; refine pcalls_of k44 e44 (of_decide_eq_true rfl) ?_; dsimp only [c44]; generalize hQ : pfin _ _ = Q
  refine gor hL ?_; (repeat (clear hL; intro t hL; refine gor hL ?_))
  refine pcond_b rfl (fun h => ?_) (fun h => ?_)
  · have h' : l.length = 0 := by simpa using h
    refine gor hL ?_; (repeat (clear hL; intro t hL; refine gor hL ?_))
    rw [← hQ]
    have e1 : nextN l a = 0 := by rw [nextN, if_pos h']
    have e2 : nextA l a = a := by rw [nextA, if_pos h']
    rw [e1, e2, Int.zero_emod]
    exact pfinK () rfl (.inl rfl) hL
  have h' : l.length ≠ 0 := by simpa using h
  have hlt : a % l.length < l.length := Nat.mod_lt _ (by omega)
  have hy : l[a % l.length]? = some (nextN l a) := by
    rw [nextN, if_neg h', List.getD_eq_getElem?_getD, List.getElem?_eq_getElem hlt]; rfl
  have e2 : nextA l a = a + 1 := by rw [nextA, if_neg h']
  have hn := nextN_in hr a
  generalize nextN l a = n at *
  have he := emod_of (n := n) hm.1
  have h2 := Int.tmod_lt_of_pos n hm.1
  have h3 : -many < n.tmod many := by
    have := Int.tmod_lt_of_pos (-n) hm.1
    rw [Int.neg_tmod] at this
    omega
  refine gor hL ?_; (repeat (clear hL; intro t hL; refine gor hL ?_))
  refine po_remN rfl rfl h' ?_
  refine gor hL ?_; (repeat (clear hL; intro t hL; refine gor hL ?_))
  rw [IntWalk.i64_in ((a : Int) + 1) (by omega)] at hL
  refine po_rem rfl rfl (by omega) ?_
  refine gor hL ?_; (repeat (clear hL; intro t hL; refine gor hL ?_))
  refine pjoin (fun s u => s = put (fun _ => .undef) (some 5) (.d (.int .i64 (n % many))) ∧ u = t) ?_ ?_
  · refine gor hL ?_; (repeat (clear hL; intro t hL; refine gor hL ?_))
    refine pcond_b rfl (fun h4 => ?_) (fun h4 => ?_)
    · have h4' : n.tmod many < 0 := by simpa using h4
      rw [if_pos h4'] at he
      refine gor hL ?_; (repeat (clear hL; intro t hL; refine gor hL ?_))
      refine gnm ?_; rw [IntWalk.i64_in (n.tmod many + many) (by omega), he]
      refine gor hL ?_; (repeat (clear hL; intro t hL; refine gor hL ?_))
      exact ⟨tr2, trivial⟩
    · have h4' : ¬ n.tmod many < 0 := by simpa using h4
      rw [if_neg h4'] at he
      refine gnm ?_; rw [he]
      refine gor hL ?_; (repeat (clear hL; intro t hL; refine gor hL ?_))
      exact ⟨tr2, trivial⟩
  · rintro s u ⟨rfl, rfl⟩
    refine gor hL ?_; (repeat (clear hL; intro t hL; refine gor hL ?_))
    rw [← hQ]
    rw [e2]
    exact pfinK () rfl (.inl rfl) hL
theorem rowsI_app2 (l r : List Int) : rowsI l ++ rowsI r = rowsI (l ++ r) := by rw [rowsI, rowsI, rowsI, List.map_append]
theorem flatLoop (kk m nn : Int) (o : List KT) (v : VT) (hvl : v.of.length < 2 ^ 40) (ix : Nat → Nat) (f : Nat → List Int) (pre : List Int) (h6 : kk = 6 → ∀ i, i < v.of.length → ix i = i) (h8 : kk = 8 → ∀ i, i < v.of.length → v.n = ix i) (h0 : kk ≠ 6 → kk ≠ 8 → ∀ i, i < v.of.length → ix i = 0)
    (hp : ∀ i, i < v.of.length → ∃ y x, o[ix i]? = some y ∧ v.of[i]? = some x ∧ Pure (PCalls Try.prog GG) 19 [y.rav, x.av] (.d (i64s (f i)))) (hlen : (pre ++ (List.range v.of.length).flatMap f).length < 2 ^ 40)
    {st t : St} {p2 p3 : Nat} {a0 : AV} {Q : PEx → Slots → St → Prop} (hQ : pfin [PRes.tmp 4] (fun r st' => st' = st ∧ r = .d (i64s (pre ++ (List.range v.of.length).flatMap f))) = Q)
    (hL : Lay st (.vec a0 (rowsI pre) 1 :: [.box p3 [.d (.int .i64 v.n), .d (.flt .f64 v.f), .d (.str v.s), .d (.sl (v.of.map VT.row))], .box p2 [.d (.int .i64 kk), .d (.int .i64 m), .d (.int .i64 nn), .d (.sl (o.map KT.rrow))]]) t) :
    pwp GG (PCalls Try.prog GG) c19_14 (PEx.next (pwp GG (PCalls Try.prog GG) c19_26 Q) Q) (put (put (put (put (fun _ => .undef) (some 5) a0) (some 3) (ptrAt p3)) (some 2) (ptrAt p2)) (some 6) (.d (.int .i64 0))) t := by
  refine pblock (pupA v.of.length (fun k s u => ∃ a, s = put (put (put (put (fun _ => .undef) (some 3) (ptrAt p3)) (some 2) (ptrAt p2)) (some 6) (i64 k)) (some 5) a ∧ Lay st [.vec a (rowsI (pre ++ (List.range k).flatMap f)) 1, .box p3 [.d (.int .i64 v.n), .d (.flt .f64 v.f), .d (.str v.s), .d (.sl (v.of.map VT.row))], .box p2 [.d (.int .i64 kk), .d (.int .i64 m), .d (.int .i64 nn), .d (.sl (o.map KT.rrow))]] u) ⟨a0, trimA, by simpa using hL⟩ ?_)
  clear hL
  rintro k s t hk ⟨a, rfl, hL⟩
  have fa := hL.vk a
  obtain ⟨fa_r, fa_w, fa_w1, fa_c, fa_s, fa_d⟩ := id fa
  refine gor hL ?_; (repeat (clear hL; intro t hL; refine gor hL ?_))
  refine pcond_b rfl (fun hlt => ?_) (fun hlt => ?_)
  · have hlt' : k < v.of.length := by simpa using hlt
    obtain ⟨y, x, hy, hx, hc⟩ := hp k hlt'
    rw [KT.rav_eq, VT.av_eq] at hc
    refine gor hL ?_; (repeat (clear hL; intro t hL; refine gor hL ?_))
    refine pjoin (fun s u => s = put (put (put (put (put (fun _ => .undef) (some 7) (i64 (if kk = 6 then k else 0 : Nat))) (some 6) (i64 k)) (some 5) a) (some 3) (ptrAt p3)) (some 2) (ptrAt p2) ∧ u = t) ?_ ?_
    · refine gor hL ?_; (repeat (clear hL; intro t hL; refine gor hL ?_))
      refine pcond_b rfl (fun e6 => ?_) (fun e6 => ?_)
      · have e6' : kk = 6 := by simpa using e6
        refine gor hL ?_; (repeat (clear hL; intro t hL; refine gor hL ?_))
        exact ⟨by rw [if_pos e6']; exact tr2, trivial⟩
      · have e6' : ¬ kk = 6 := by simpa using e6
        refine gor hL ?_; (repeat (clear hL; intro t hL; refine gor hL ?_))
        exact ⟨by rw [if_neg e6']; exact tr2, trivial⟩
    rintro s u ⟨rfl, rfl⟩
    refine gor hL ?_; (repeat (clear hL; intro t hL; refine gor hL ?_))
    refine pcond_b rfl (fun e8 => ?_) (fun e8 => ?_)
    · have e8' : kk = 8 := by simpa using e8
      refine gor hL ?_; (repeat (clear hL; intro t hL; refine gor hL ?_))
      refine gnm ?_; rw [h8 e8' k hlt']
      refine gor hL ?_; (repeat (clear hL; intro t hL; refine gor hL ?_))
      refine po_c0 (hc) ?_
      refine gor hL ?_; (repeat (clear hL; intro t hL; refine gor hL ?_))
      refine po_appA (hn := rowsI_len _) hL (rowsI_len _) ?_ ?_
      · have := pre_len (f := f) (k := k + 1) (n := v.of.length) hlt'
        rw [List.range_succ, List.flatMap_append, List.length_append] at this
        simp at this hlen ⊢
        omega
      clear hL; intro a' t f' hL
      obtain ⟨f'_r, f'_w, f'_w1, f'_c, f'_s, f'_d⟩ := id f'
      rw [rowsI_app2, List.append_assoc, show (List.range k).flatMap f ++ f k = (List.range (k + 1)).flatMap f by rw [List.range_succ, List.flatMap_append]; simp] at hL
      refine gor hL ?_; (repeat (clear hL; intro t hL; refine gor hL ?_))
      refine gnm ?_; rw [IntWalk.i64_in ((k : Int) + 1) (by omega)]
      refine ⟨hlt', a', trimA, ?_⟩
      (try rw [← h8 e8' k hlt'])
      exact hL.pk
    · have e8' : ¬ kk = 8 := by simpa using e8
      have e : (if kk = 6 then k else 0) = ix k := by
        split
        · rename_i e6; exact (h6 e6 k hlt').symm
        · rename_i e6; exact (h0 e6 e8' k hlt').symm
      refine gnm ?_; rw [e]
      refine gor hL ?_; (repeat (clear hL; intro t hL; refine gor hL ?_))
      refine po_c0 (hc) ?_
      refine gor hL ?_; (repeat (clear hL; intro t hL; refine gor hL ?_))
      refine po_appA (hn := rowsI_len _) hL (rowsI_len _) ?_ ?_
      · have := pre_len (f := f) (k := k + 1) (n := v.of.length) hlt'
        rw [List.range_succ, List.flatMap_append, List.length_append] at this
        simp at this hlen ⊢
        omega
      clear hL; intro a' t f' hL
      obtain ⟨f'_r, f'_w, f'_w1, f'_c, f'_s, f'_d⟩ := id f'
      rw [rowsI_app2, List.append_assoc, show (List.range k).flatMap f ++ f k = (List.range (k + 1)).flatMap f by rw [List.range_succ, List.flatMap_append]; simp] at hL
      refine gor hL ?_; (repeat (clear hL; intro t hL; refine gor hL ?_))
      refine gnm ?_; rw [IntWalk.i64_in ((k : Int) + 1) (by omega)]
      refine ⟨hlt', a', trimA, ?_⟩
      exact hL.pk
  · have hlt' : ¬ k < v.of.length := by simpa using hlt
    obtain rfl : k = v.of.length := by omega
    refine gor hL ?_; (repeat (clear hL; intro t hL; refine gor hL ?_))
    rw [← hQ]
    exact pfin_weak (u := a) rfl fa_w hL.le
theorem C19 : ∀ (e : Nat) (T : KT) (v : VT), WT e T → VT.is e T v = true → v.fit → v.count < 2 ^ 40 → Pure (PCalls Try.prog GG) 19 [T.rav, v.av] (.d (i64s (flatR e T v))) := by
  intro e
  induction e with
  | zero => intro T v h; cases h
  | succ d ih =>
  intro T v hw his hv hcn
  have hvl := hv.len
  have hfl := Nat.lt_of_le_of_lt (flatR_len hw his) hcn
  cases hw with
  | base _ k hk =>
    have : k = 0 ∨ k = 1 ∨ k = 2 ∨ k = 3 := by omega
    rcases this with rfl | rfl | rfl | rfl
    · simp only [KT.rav_eq, VT.av_eq, KT.pj, List.length_nil, List.map_nil, List.map_cons]
      have hz : v.of.length = 0 := by rw [is0] at his; simp at his; simp [his]
      have hR : flatR (d + 1) (.mk 0 0 [] []) v = [v.n] ++ (List.range v.of.length).flatMap fun _ => [] := by
        show [] ++ [v.n] ++ (List.range v.of.length).flatMap _ = _
        rw [hz]; rfl
      rw [hR] at hfl ⊢
      intro st; refine pcalls_of k19 e19 (of_decide_eq_true rfl) ?_; dsimp only [c19]; refine pstartL ?_; intro t hL; generalize hQ : pfin _ _ = Q
      (refine gor hL ?_; (repeat (clear hL; intro t hL; refine gor hL ?_))); refine po_boxA hL ?_; clear hL; intro p2 t hL
      (refine gor hL ?_; (repeat (clear hL; intro t hL; refine gor hL ?_))); refine po_boxA hL ?_; clear hL; intro p3 t hL
      refine gor hL ?_; (repeat (clear hL; intro t hL; refine gor hL ?_))
      refine gor hL ?_; (repeat (clear hL; intro t hL; refine gor hL ?_)); (repeat (refine pseqk ?_; refine gor hL ?_; (repeat (clear hL; intro t hL; refine gor hL ?_))))
      replace hL := hL.full [] 1
      refine po_appA (rows := []) hL (fun r h => (by cases h)) ?_ ?_
      · simp
      clear hL; intro v1 t f1 hL
      obtain ⟨f1_r, f1_w, f1_w1, f1_c, f1_s, f1_d⟩ := id f1
      rw [List.nil_append] at hL
      refine gor hL ?_; (repeat (clear hL; intro t hL; refine gor hL ?_)); (repeat (refine pseqk ?_; refine gor hL ?_; (repeat (clear hL; intro t hL; refine gor hL ?_))))
      exact flatLoop 0 _ _ [] v hvl (fun _ => 0) (fun _ => []) [v.n] (by omega) (by omega) (by omega) (by omega) (by omega) hQ (hL.pk)
    · simp only [KT.rav_eq, VT.av_eq, KT.pj, List.length_nil, List.map_nil, List.map_cons]
      have hz : v.of.length = 0 := by rw [is1] at his; simp at his; simp [his]
      have hR : flatR (d + 1) (.mk 1 0 [] []) v = [v.n] ++ (List.range v.of.length).flatMap fun _ => [] := by
        show [] ++ [v.n] ++ (List.range v.of.length).flatMap _ = _
        rw [hz]; rfl
      rw [hR] at hfl ⊢
      intro st; refine pcalls_of k19 e19 (of_decide_eq_true rfl) ?_; dsimp only [c19]; refine pstartL ?_; intro t hL; generalize hQ : pfin _ _ = Q
      (refine gor hL ?_; (repeat (clear hL; intro t hL; refine gor hL ?_))); refine po_boxA hL ?_; clear hL; intro p2 t hL
      (refine gor hL ?_; (repeat (clear hL; intro t hL; refine gor hL ?_))); refine po_boxA hL ?_; clear hL; intro p3 t hL
      refine gor hL ?_; (repeat (clear hL; intro t hL; refine gor hL ?_))
      refine gor hL ?_; (repeat (clear hL; intro t hL; refine gor hL ?_)); (repeat (refine pseqk ?_; refine gor hL ?_; (repeat (clear hL; intro t hL; refine gor hL ?_))))
      replace hL := hL.full [] 1
      refine po_appA (rows := []) hL (fun r h => (by cases h)) ?_ ?_
      · simp
      clear hL; intro v1 t f1 hL
      obtain ⟨f1_r, f1_w, f1_w1, f1_c, f1_s, f1_d⟩ := id f1
      rw [List.nil_append] at hL
      refine gor hL ?_; (repeat (clear hL; intro t hL; refine gor hL ?_)); (repeat (refine pseqk ?_; refine gor hL ?_; (repeat (clear hL; intro t hL; refine gor hL ?_))))
      exact flatLoop 1 _ _ [] v hvl (fun _ => 0) (fun _ => []) [v.n] (by omega) (by omega) (by omega) (by omega) (by omega) hQ (hL.pk)
    · simp only [KT.rav_eq, VT.av_eq, KT.pj, List.length_nil, List.map_nil, List.map_cons]
      have hz : v.of.length = 0 := by rw [is2] at his; simp at his; simp [his]
      have hR : flatR (d + 1) (.mk 2 0 [] []) v = [v.n] ++ (List.range v.of.length).flatMap fun _ => [] := by
        show [] ++ [v.n] ++ (List.range v.of.length).flatMap _ = _
        rw [hz]; rfl
      rw [hR] at hfl ⊢
      intro st; refine pcalls_of k19 e19 (of_decide_eq_true rfl) ?_; dsimp only [c19]; refine pstartL ?_; intro t hL; generalize hQ : pfin _ _ = Q
      (refine gor hL ?_; (repeat (clear hL; intro t hL; refine gor hL ?_))); refine po_boxA hL ?_; clear hL; intro p2 t hL
      (refine gor hL ?_; (repeat (clear hL; intro t hL; refine gor hL ?_))); refine po_boxA hL ?_; clear hL; intro p3 t hL
      refine gor hL ?_; (repeat (clear hL; intro t hL; refine gor hL ?_))
      refine gor hL ?_; (repeat (clear hL; intro t hL; refine gor hL ?_)); (repeat (refine pseqk ?_; refine gor hL ?_; (repeat (clear hL; intro t hL; refine gor hL ?_))))
      replace hL := hL.full [] 1
      refine po_appA (rows := []) hL (fun r h => (by cases h)) ?_ ?_
      · simp
      clear hL; intro v1 t f1 hL
      obtain ⟨f1_r, f1_w, f1_w1, f1_c, f1_s, f1_d⟩ := id f1
      rw [List.nil_append] at hL
      refine gor hL ?_; (repeat (clear hL; intro t hL; refine gor hL ?_)); (repeat (refine pseqk ?_; refine gor hL ?_; (repeat (clear hL; intro t hL; refine gor hL ?_))))
      exact flatLoop 2 _ _ [] v hvl (fun _ => 0) (fun _ => []) [v.n] (by omega) (by omega) (by omega) (by omega) (by omega) hQ (hL.pk)
    · simp only [KT.rav_eq, VT.av_eq, KT.pj, List.length_nil, List.map_nil, List.map_cons]
      have hR : flatR (d + 1) (.mk 3 0 [] []) v = [wholeF v.f] := rfl
      rw [hR] at hfl ⊢
      intro st; refine pcalls_of k19 e19 (of_decide_eq_true rfl) ?_; dsimp only [c19]; refine pstartL ?_; intro t hL; generalize hQ : pfin _ _ = Q
      (refine gor hL ?_; (repeat (clear hL; intro t hL; refine gor hL ?_))); refine po_boxA hL ?_; clear hL; intro p2 t hL
      (refine gor hL ?_; (repeat (clear hL; intro t hL; refine gor hL ?_))); refine po_boxA hL ?_; clear hL; intro p3 t hL
      refine gor hL ?_; (repeat (clear hL; intro t hL; refine gor hL ?_))
      refine po_c0 (C43 v.f) ?_
      refine gor hL ?_; (repeat (clear hL; intro t hL; refine gor hL ?_))
      rw [← hQ]
      exact pfin_weak rfl rfl hL.le
  | text _ m hm =>
    simp only [KT.rav_eq, VT.av_eq, KT.pj, List.length_nil, List.map_nil, List.map_cons]
    have hR : flatR (d + 1) (.mk 4 m [] []) v = [(v.s.size : Int)] := rfl
    rw [hR] at hfl ⊢
    intro st; refine pcalls_of k19 e19 (of_decide_eq_true rfl) ?_; dsimp only [c19]; refine pstartL ?_; intro t hL; generalize hQ : pfin _ _ = Q
    (refine gor hL ?_; (repeat (clear hL; intro t hL; refine gor hL ?_))); refine po_boxA hL ?_; clear hL; intro p2 t hL
    (refine gor hL ?_; (repeat (clear hL; intro t hL; refine gor hL ?_))); refine po_boxA hL ?_; clear hL; intro p3 t hL
    refine gor hL ?_; (repeat (clear hL; intro t hL; refine gor hL ?_))
    refine gor hL ?_; (repeat (clear hL; intro t hL; refine gor hL ?_)); (repeat (refine pseqk ?_; refine gor hL ?_; (repeat (clear hL; intro t hL; refine gor hL ?_))))
    rw [← hQ]
    exact pfin_weak rfl rfl hL.le
  | seq _ m o hm ho =>
    simp only [KT.rav_eq, VT.av_eq, KT.pj, List.length_nil, List.map_nil, List.map_cons]
    obtain ⟨_, _, _, ha⟩ := is_5 rfl his
    have hR : flatR (d + 1) (.mk 5 m [] [o]) v = [(v.of.length : Int)] ++ (List.range v.of.length).flatMap fun i => flatR d o (v.of.getD i VT.zero) := by
      show [(v.of.length : Int)] ++ [] ++ (List.range v.of.length).flatMap _ = _
      rw [List.append_nil]; rfl
    rw [hR] at hfl ⊢
    intro st; refine pcalls_of k19 e19 (of_decide_eq_true rfl) ?_; dsimp only [c19]; refine pstartL ?_; intro t hL; generalize hQ : pfin _ _ = Q
    (refine gor hL ?_; (repeat (clear hL; intro t hL; refine gor hL ?_))); refine po_boxA hL ?_; clear hL; intro p2 t hL
    (refine gor hL ?_; (repeat (clear hL; intro t hL; refine gor hL ?_))); refine po_boxA hL ?_; clear hL; intro p3 t hL
    refine gor hL ?_; (repeat (clear hL; intro t hL; refine gor hL ?_))
    refine gor hL ?_; (repeat (clear hL; intro t hL; refine gor hL ?_)); (repeat (refine pseqk ?_; refine gor hL ?_; (repeat (clear hL; intro t hL; refine gor hL ?_))))
    replace hL := hL.full [] 1
    refine po_appA (rows := []) hL (fun r h => (by cases h)) ?_ ?_
    · simp
    clear hL; intro v1 t f1 hL
    obtain ⟨f1_r, f1_w, f1_w1, f1_c, f1_s, f1_d⟩ := id f1
    rw [List.nil_append] at hL
    refine gor hL ?_; (repeat (clear hL; intro t hL; refine gor hL ?_)); (repeat (refine pseqk ?_; refine gor hL ?_; (repeat (clear hL; intro t hL; refine gor hL ?_))))
    replace hL := hL.perm (List.Perm.refl _)
    exact flatLoop 5 _ _ [o] v hvl (fun _ => 0) (fun i => flatR d o (v.of.getD i VT.zero)) [(v.of.length : Int)] (by omega) (by omega) (fun _ _ _ _ => rfl) (fun i hi => by
      obtain ⟨x, hx, hxm⟩ := elem_at hi
      have e : v.of.getD i VT.zero = x := by rw [List.getD_eq_getElem?_getD, hx]; rfl
      rw [e]
      exact ⟨o, x, rfl, hx, ih o x ho (ha x hxm) (hv.part hxm) (by have := VT.count_part hxm; omega)⟩) (by omega) hQ (hL.pk)
  | reco _ k n o hk hl hn hf ho =>
    rcases hk with rfl | rfl
    · simp only [KT.rav_eq, VT.av_eq, KT.pj, List.length_nil, List.map_nil, List.map_cons]
      obtain ⟨_, h2, ha⟩ := is_6 rfl his
      have hR : flatR (d + 1) (.mk 6 0 n o) v = [] ++ (List.range v.of.length).flatMap fun i => flatR d (o.getD i (.mk 0 0 [] [])) (v.of.getD i VT.zero) := rfl
      rw [hR] at hfl ⊢
      intro st; refine pcalls_of k19 e19 (of_decide_eq_true rfl) ?_; dsimp only [c19]; refine pstartL ?_; intro t hL; generalize hQ : pfin _ _ = Q
      (refine gor hL ?_; (repeat (clear hL; intro t hL; refine gor hL ?_))); refine po_boxA hL ?_; clear hL; intro p2 t hL
      (refine gor hL ?_; (repeat (clear hL; intro t hL; refine gor hL ?_))); refine po_boxA hL ?_; clear hL; intro p3 t hL
      refine gor hL ?_; (repeat (clear hL; intro t hL; refine gor hL ?_))
      refine gor hL ?_; (repeat (clear hL; intro t hL; refine gor hL ?_)); (repeat (refine pseqk ?_; refine gor hL ?_; (repeat (clear hL; intro t hL; refine gor hL ?_))))
      replace hL := hL.full [] 1
      exact flatLoop 6 _ _ o v hvl (fun i => i) (fun i => flatR d (o.getD i (.mk 0 0 [] [])) (v.of.getD i VT.zero)) [] (fun _ _ _ => rfl) (by omega) (by omega) (fun i hi => by
        obtain ⟨x, hx, hxm⟩ := elem_at hi
        have h2' : v.of.length = o.length := h2
        obtain ⟨y, hy, hym⟩ := elem_at (l := o) (k := i) (by omega)
        have e : v.of.getD i VT.zero = x := by rw [List.getD_eq_getElem?_getD, hx]; rfl
        have e' : o.getD i (.mk 0 0 [] []) = y := by rw [List.getD_eq_getElem?_getD, hy]; rfl
        rw [e, e']
        exact ⟨y, x, hy, hx, ih y x (ho y hym) (allZip_get ha i y x hy hx) (hv.part hxm) (by have := VT.count_part hxm; omega)⟩) (by omega) hQ (hL.pk)
    · simp only [KT.rav_eq, VT.av_eq, KT.pj, List.length_nil, List.map_nil, List.map_cons]
      obtain ⟨⟨g1, g2, g3⟩, ha⟩ := is_8 rfl his
      have hj : v.n.toNat < o.length := by
        have : v.n < (o.length : Int) := g2
        omega
      have hR : flatR (d + 1) (.mk 8 0 n o) v = [v.n] ++ (List.range v.of.length).flatMap fun i => flatR d (o.getD v.n.toNat (.mk 0 0 [] [])) (v.of.getD i VT.zero) := rfl
      rw [hR] at hfl ⊢
      intro st; refine pcalls_of k19 e19 (of_decide_eq_true rfl) ?_; dsimp only [c19]; refine pstartL ?_; intro t hL; generalize hQ : pfin _ _ = Q
      (refine gor hL ?_; (repeat (clear hL; intro t hL; refine gor hL ?_))); refine po_boxA hL ?_; clear hL; intro p2 t hL
      (refine gor hL ?_; (repeat (clear hL; intro t hL; refine gor hL ?_))); refine po_boxA hL ?_; clear hL; intro p3 t hL
      refine gor hL ?_; (repeat (clear hL; intro t hL; refine gor hL ?_))
      refine gor hL ?_; (repeat (clear hL; intro t hL; refine gor hL ?_)); (repeat (refine pseqk ?_; refine gor hL ?_; (repeat (clear hL; intro t hL; refine gor hL ?_))))
      replace hL := hL.full [] 1
      refine po_appA (rows := []) hL (fun r h => (by cases h)) ?_ ?_
      · simp
      clear hL; intro v1 t f1 hL
      obtain ⟨f1_r, f1_w, f1_w1, f1_c, f1_s, f1_d⟩ := id f1
      rw [List.nil_append] at hL
      refine gor hL ?_; (repeat (clear hL; intro t hL; refine gor hL ?_)); (repeat (refine pseqk ?_; refine gor hL ?_; (repeat (clear hL; intro t hL; refine gor hL ?_))))
      exact flatLoop 8 _ _ o v hvl (fun _ => v.n.toNat) (fun i => flatR d (o.getD v.n.toNat (.mk 0 0 [] [])) (v.of.getD i VT.zero)) [v.n] (by omega) (fun _ _ _ => by omega) (by omega) (fun i hi => by
        obtain ⟨x, hx, hxm⟩ := elem_at hi
        obtain ⟨y, hy, hym⟩ := elem_at (l := o) (k := v.n.toNat) hj
        have e : v.of.getD i VT.zero = x := by rw [List.getD_eq_getElem?_getD, hx]; rfl
        have e' : o.getD v.n.toNat (.mk 0 0 [] []) = y := by rw [List.getD_eq_getElem?_getD, hy]; rfl
        have e0 : v.of.getD 0 VT.zero = x := by
          have : i = 0 := by omega
          rw [← this, e]
        have ha' : VT.is d (o.getD v.n.toNat (.mk 0 0 [] [])) (v.of.getD 0 VT.zero) = true := ha
        rw [e', e0] at ha'
        rw [e, e']
        exact ⟨y, x, hy, hx, ih y x (ho y hym) ha' (hv.part hxm) (by have := VT.count_part hxm; omega)⟩) (by omega) hQ (hL.pk)
  | enum _ n hl hf =>
    simp only [KT.rav_eq, VT.av_eq, KT.pj, List.length_nil, List.map_nil, List.map_cons]
    have hz : v.of.length = 0 := by rw [is7] at his; simp at his; simp [his]
    have hR : flatR (d + 1) (.mk 7 0 n []) v = [v.n] ++ (List.range v.of.length).flatMap fun _ => [] := by
      show [] ++ [v.n] ++ (List.range v.of.length).flatMap _ = _
      rw [hz]; rfl
    rw [hR] at hfl ⊢
    intro st; refine pcalls_of k19 e19 (of_decide_eq_true rfl) ?_; dsimp only [c19]; refine pstartL ?_; intro t hL; generalize hQ : pfin _ _ = Q
    (refine gor hL ?_; (repeat (clear hL; intro t hL; refine gor hL ?_))); refine po_boxA hL ?_; clear hL; intro p2 t hL
    (refine gor hL ?_; (repeat (clear hL; intro t hL; refine gor hL ?_))); refine po_boxA hL ?_; clear hL; intro p3 t hL
    refine gor hL ?_; (repeat (clear hL; intro t hL; refine gor hL ?_))
    refine gor hL ?_; (repeat (clear hL; intro t hL; refine gor hL ?_)); (repeat (refine pseqk ?_; refine gor hL ?_; (repeat (clear hL; intro t hL; refine gor hL ?_))))
    replace hL := hL.full [] 1
    refine po_appA (rows := []) hL (fun r h => (by cases h)) ?_ ?_
    · simp
    clear hL; intro v1 t f1 hL
    obtain ⟨f1_r, f1_w, f1_w1, f1_c, f1_s, f1_d⟩ := id f1
    rw [List.nil_append] at hL
    refine gor hL ?_; (repeat (clear hL; intro t hL; refine gor hL ?_)); (repeat (refine pseqk ?_; refine gor hL ?_; (repeat (clear hL; intro t hL; refine gor hL ?_))))
    exact flatLoop 7 _ _ [] v hvl (fun _ => 0) (fun _ => []) [v.n] (by omega) (by omega) (by omega) (by omega) (by omega) hQ (hL.pk)
end Go.Pv
namespace Go.Pv
open Go.Proofs
set_option maxRecDepth 100000
set_option maxHeartbeats 8000000

/-- prompter/prompterref08.Build -/
abbrev c26_4 : PCode :=
 (.region [⟨(.some 21), (.mov (.t 0)), .none⟩,
   ⟨(.some 22), (.call0 44 [(.t 21), (.c (.d (.int .i64 2)))]), .none⟩,
   ⟨(.some 23), (.faddr 0 (.t 5)), .none⟩,
   ⟨.none, (.store 1 (.t 23) (.t 22)), .none⟩])
abbrev c26_3 : PCode :=
 (.cond (.t 20)
  c26_4
  .skip)
abbrev c26_7 : PCode :=
 (.region [⟨(.some 27), (.mov (.t 0)), .none⟩,
   ⟨(.some 28), (.call0 44 [(.t 27), (.c (.d (.int .i64 65536)))]), .none⟩,
   ⟨(.some 29), (.faddr 0 (.t 5)), .none⟩,
   ⟨.none, (.store 1 (.t 29) (.t 28)), .none⟩])
abbrev c26_6 : PCode :=
 (.cond (.t 26)
  c26_7
  .skip)
abbrev c26_13 : PCode :=
 (.region [⟨(.some 39), (.faddr 0 (.t 5)), .none⟩,
   ⟨(.some 40), (.load .false 1 (.t 39) .false), .none⟩,
   ⟨(.some 41), (.bin .sub (.t 40) (.c (.d (.int .i64 4294967296)))), .none⟩,
   ⟨(.some 42), (.faddr 0 (.t 5)), .none⟩,
   ⟨.none, (.store 1 (.t 42) (.t 41)), .none⟩])
abbrev c26_12 : PCode :=
 (.cond (.t 38)
  c26_13
  .skip)
abbrev c26_11 : PCode :=
 (.keep [0, 3, 4, 5] (.seq (.region [⟨(.some 36), (.faddr 0 (.t 5)), .none⟩,
   ⟨(.some 37), (.load .false 1 (.t 36) .false), .none⟩,
   ⟨(.some 38), (.bin .geq (.t 37) (.c (.d (.int .i64 2147483648)))), .none⟩])
 c26_12))
abbrev c26_10 : PCode :=
 (.seq (.region [⟨(.some 33), (.mov (.t 0)), .none⟩,
   ⟨(.some 34), (.call0 44 [(.t 33), (.c (.d (.int .i64 4294967296)))]), .none⟩,
   ⟨(.some 35), (.faddr 0 (.t 5)), .none⟩,
   ⟨.none, (.store 1 (.t 35) (.t 34)), .none⟩])
 c26_11)
abbrev c26_9 : PCode :=
 (.cond (.t 32)
  c26_10
  .skip)
abbrev c26_17 : PCode :=
 (.keep [0, 3, 4, 5] (.region [⟨(.some 72), (.mov (.t 0)), .none⟩,
   ⟨(.some 73), (.nilchk (.t 72)), .none⟩,
   ⟨(.some 74), (.faddr 1 (.t 73)), .none⟩,
   ⟨(.some 75), (.load .false 1 (.t 74) .false), .none⟩,
   ⟨(.some 76), (.bin .add (.t 75) (.c (.d (.int .i64 1)))), .none⟩,
   ⟨(.some 77), (.nilchk (.t 72)), .none⟩,
   ⟨(.some 78), (.faddr 1 (.t 77)), .none⟩,
   ⟨.none, (.store 1 (.t 78) (.t 76)), .none⟩]))
abbrev c26_16 : PCode :=
 (.seq (.region [⟨(.some 54), (.mov (.t 0)), .none⟩,
   ⟨(.some 55), (.nilchk (.t 54)), .none⟩,
   ⟨(.some 56), (.faddr 0 (.t 55)), .none⟩,
   ⟨(.some 57), (.load .false 1 (.t 56) .false), .none⟩,
   ⟨(.some 58), (.mov (.t 0)), .none⟩,
   ⟨(.some 59), (.nilchk (.t 58)), .none⟩,
   ⟨(.some 60), (.faddr 1 (.t 59)), .none⟩,
   ⟨(.some 61), (.load .false 1 (.t 60) .false), .none⟩,
   ⟨(.some 62), (.mov (.t 0)), .none⟩,
   ⟨(.some 63), (.nilchk (.t 62)), .none⟩,
   ⟨(.some 64), (.faddr 0 (.t 63)), .none⟩,
   ⟨(.some 65), (.load .false 1 (.t 64) .false), .none⟩,
   ⟨(.some 66), (.len (.t 65)), .none⟩,
   ⟨(.some 67), (.bin .rem (.t 61) (.t 66)), .none⟩,
   ⟨(.some 68), (.iaddr 1 (.t 57) (.t 67)), .none⟩,
   ⟨(.some 69), (.load .false 1 (.t 68) .false), .none⟩,
   ⟨(.some 70), (.cvtF .f64 (.t 69)), .none⟩,
   ⟨(.some 71), (.faddr 1 (.t 5)), .none⟩,
   ⟨.none, (.store 1 (.t 71) (.t 70)), .none⟩])
 c26_17)
abbrev c26_15 : PCode :=
 (.cond (.t 53)
  c26_16
  .skip)
abbrev c26_24 : PCode :=
 (.exit 0)
abbrev c26_23 : PCode :=
 (.cond (.t 89)
  .skip
  c26_24)
abbrev c26_26 : PCode :=
 (.region [⟨(.some 90), (.mov (.t 7)), .none⟩,
   ⟨(.some 91), (.bin .add (.t 90) (.c (.d (.int .i64 1)))), .none⟩,
   ⟨(.some 7), (.mov (.t 91)), .none⟩])
abbrev c26_25 : PCode :=
 (.seq (.block 1 (.region [⟨(.some 92), (.faddr 2 (.t 5)), .none⟩,
   ⟨(.some 93), (.load .false 1 (.t 92) .false), .none⟩,
   ⟨(.some 94), (.mov (.t 7)), .none⟩,
   ⟨(.some 95), (.bin .rem (.t 94) (.c (.d (.int .i64 26)))), .none⟩,
   ⟨(.some 96), (.mov (.t 7)), .none⟩,
   ⟨(.some 97), (.bin .rem (.t 96) (.c (.d (.int .i64 26)))), .none⟩,
   ⟨(.some 98), (.bin .add (.t 97) (.c (.d (.int .i64 1)))), .none⟩,
   ⟨(.some 99), (.slcS (.c (.d (.str (bs [97, 98, 99, 100, 101, 102, 103, 104, 105, 106, 107, 108, 109, 110, 111, 112, 113, 114, 115, 116, 117, 118, 119, 120, 121, 122])))) (.some (.t 95)) (.some (.t 98))), .none⟩,
   ⟨(.some 100), (.bin .add (.t 93) (.t 99)), .none⟩,
   ⟨(.some 101), (.faddr 2 (.t 5)), .none⟩,
   ⟨.none, (.store 1 (.t 101) (.t 100)), .none⟩]))
 c26_26)
abbrev c26_22 : PCode :=
 (.block 0 (.loop (.some [7, 0, 3, 4, 5, 6]) (.seq (.seq (.region [⟨(.some 87), (.mov (.t 7)), .none⟩,
   ⟨(.some 88), (.mov (.t 6)), .none⟩,
   ⟨(.some 89), (.bin .lss (.t 87) (.t 88)), .none⟩])
 c26_23)
 c26_25)))
abbrev c26_21 : PCode :=
 (.keep [0, 3, 4, 5, 6] (.seq (.region [⟨(.some 7), (.mov (.c (.d (.int .i64 0)))), .none⟩])
 c26_22))
abbrev c26_20 : PCode :=
 (.seq (.region [⟨(.some 82), (.mov (.t 0)), .none⟩,
   ⟨(.some 83), (.faddr 1 (.t 3)), .none⟩,
   ⟨(.some 84), (.load .false 1 (.t 83) .false), .none⟩,
   ⟨(.some 85), (.bin .add (.t 84) (.c (.d (.int .i64 1)))), .none⟩,
   ⟨(.some 86), (.call0 44 [(.t 82), (.t 85)]), .none⟩,
   ⟨(.some 6), (.mov (.t 86)), .none⟩])
 c26_21)
abbrev c26_19 : PCode :=
 (.cond (.t 81)
  c26_20
  .skip)
abbrev c26_32 : PCode :=
 (.region [⟨(.some 118), (.faddr 1 (.t 3)), .none⟩,
   ⟨(.some 119), (.load .false 1 (.t 118) .false), .none⟩,
   ⟨(.some 8), (.mov (.t 119)), .none⟩])
abbrev c26_31 : PCode :=
 (.cond (.t 117)
  c26_32
  .skip)
abbrev c26_36 : PCode :=
 (.exit 2)
abbrev c26_35 : PCode :=
 (.cond (.t 122)
  .skip
  c26_36)
abbrev c26_38 : PCode :=
 (.region [⟨(.some 123), (.mov (.t 9)), .none⟩,
   ⟨(.some 124), (.bin .add (.t 123) (.c (.d (.int .i64 1)))), .none⟩,
   ⟨(.some 9), (.mov (.t 124)), .none⟩])
abbrev c26_37 : PCode :=
 (.seq (.block 3 (.region [⟨(.some 125), (.faddr 3 (.t 5)), .none⟩,
   ⟨(.some 126), (.load .false 1 (.t 125) .true), .none⟩,
   ⟨(.some 127), (.mov (.t 0)), .none⟩,
   ⟨(.some 128), (.faddr 3 (.t 3)), .none⟩,
   ⟨(.some 129), (.load .false 1 (.t 128) .true), .none⟩,
   ⟨(.some 130), (.iaddr 4 (.t 129) (.c (.d (.int .i64 0)))), .none⟩,
   ⟨(.some 131), (.load .true 4 (.t 130) .true), .none⟩,
   ⟨(.some 132), (.call 26 [(.t 127), (.t 131)]), .none⟩,
   ⟨(.some 133), (.bsl 4 [(.t 132)]), .none⟩,
   ⟨(.some 134), (.app 4 56 (.t 126) (.t 133)), .none⟩,
   ⟨(.some 135), (.faddr 3 (.t 5)), .none⟩,
   ⟨.none, (.storeo 1 (.t 135) (.t 134)), .none⟩]))
 c26_38)
abbrev c26_34 : PCode :=
 (.block 2 (.loop (.some [9, 0, 3, 4, 5, 8]) (.seq (.seq (.region [⟨(.some 120), (.mov (.t 9)), .none⟩,
   ⟨(.some 121), (.mov (.t 8)), .none⟩,
   ⟨(.some 122), (.bin .lss (.t 120) (.t 121)), .none⟩])
 c26_35)
 c26_37)))
abbrev c26_33 : PCode :=
 (.keep [0, 3, 4, 5, 8] (.seq (.region [⟨(.some 9), (.mov (.c (.d (.int .i64 0)))), .none⟩])
 c26_34))
abbrev c26_30 : PCode :=
 (.keep [0, 3, 4, 5, 8] (.seq (.seq (.region [⟨(.some 114), (.mov (.t 8)), .none⟩,
   ⟨(.some 115), (.faddr 1 (.t 3)), .none⟩,
   ⟨(.some 116), (.load .false 1 (.t 115) .false), .none⟩,
   ⟨(.some 117), (.bin .gtr (.t 114) (.t 116)), .none⟩])
 c26_31)
 c26_33))
abbrev c26_29 : PCode :=
 (.seq (.region [⟨(.some 112), (.mov (.t 0)), .none⟩,
   ⟨(.some 113), (.call0 44 [(.t 112), (.c (.d (.int .i64 4)))]), .none⟩,
   ⟨(.some 8), (.mov (.t 113)), .none⟩])
 c26_30)
abbrev c26_28 : PCode :=
 (.cond (.t 111)
  c26_29
  .skip)
abbrev c26_44 : PCode :=
 (.exit 4)
abbrev c26_43 : PCode :=
 (.cond (.t 143)
  .skip
  c26_44)
abbrev c26_46 : PCode :=
 (.region [⟨(.some 144), (.mov (.t 10)), .none⟩,
   ⟨(.some 145), (.bin .add (.t 144) (.c (.d (.int .i64 1)))), .none⟩,
   ⟨(.some 10), (.mov (.t 145)), .none⟩])
abbrev c26_45 : PCode :=
 (.seq (.block 5 (.region [⟨(.some 146), (.faddr 3 (.t 5)), .none⟩,
   ⟨(.some 147), (.load .false 1 (.t 146) .true), .none⟩,
   ⟨(.some 148), (.mov (.t 0)), .none⟩,
   ⟨(.some 149), (.faddr 3 (.t 3)), .none⟩,
   ⟨(.some 150), (.load .false 1 (.t 149) .true), .none⟩,
   ⟨(.some 151), (.mov (.t 10)), .none⟩,
   ⟨(.some 152), (.iaddr 4 (.t 150) (.t 151)), .none⟩,
   ⟨(.some 153), (.load .true 4 (.t 152) .true), .none⟩,
   ⟨(.some 154), (.call 26 [(.t 148), (.t 153)]), .none⟩,
   ⟨(.some 155), (.bsl 4 [(.t 154)]), .none⟩,
   ⟨(.some 156), (.app 4 56 (.t 147) (.t 155)), .none⟩,
   ⟨(.some 157), (.faddr 3 (.t 5)), .none⟩,
   ⟨.none, (.storeo 1 (.t 157) (.t 156)), .none⟩]))
 c26_46)
abbrev c26_42 : PCode :=
 (.block 4 (.loop (.some [10, 0, 3, 4, 5]) (.seq (.seq (.region [⟨(.some 139), (.mov (.t 10)), .none⟩,
   ⟨(.some 140), (.faddr 3 (.t 3)), .none⟩,
   ⟨(.some 141), (.load .false 1 (.t 140) .false), .none⟩,
   ⟨(.some 142), (.len (.t 141)), .none⟩,
   ⟨(.some 143), (.bin .lss (.t 139) (.t 142)), .none⟩])
 c26_43)
 c26_45)))
abbrev c26_41 : PCode :=
 (.seq (.region [⟨(.some 10), (.mov (.c (.d (.int .i64 0)))), .none⟩])
 c26_42)
abbrev c26_40 : PCode :=
 (.cond (.t 138)
  c26_41
  .skip)
abbrev c26_49 : PCode :=
 (.region [⟨(.some 161), (.mov (.t 0)), .none⟩,
   ⟨(.some 162), (.faddr 2 (.t 3)), .none⟩,
   ⟨(.some 163), (.load .false 1 (.t 162) .false), .none⟩,
   ⟨(.some 164), (.call0 44 [(.t 161), (.t 163)]), .none⟩,
   ⟨(.some 165), (.faddr 0 (.t 5)), .none⟩,
   ⟨.none, (.store 1 (.t 165) (.t 164)), .none⟩])
abbrev c26_48 : PCode :=
 (.cond (.t 160)
  c26_49
  .skip)
abbrev c26_53 : PCode :=
 (.keep [0, 3, 4, 5] (.region [⟨(.some 175), (.mov (.t 0)), .none⟩,
   ⟨(.some 176), (.faddr 3 (.t 3)), .none⟩,
   ⟨(.some 177), (.load .false 1 (.t 176) .false), .none⟩,
   ⟨(.some 178), (.faddr 0 (.t 5)), .none⟩,
   ⟨(.some 179), (.load .false 1 (.t 178) .false), .none⟩,
   ⟨(.some 180), (.iaddr 4 (.t 177) (.t 179)), .none⟩,
   ⟨(.some 181), (.load .true 4 (.t 180) .false), .none⟩,
   ⟨(.some 182), (.call0 26 [(.t 175), (.t 181)]), .none⟩,
   ⟨(.some 183), (.bsl 4 [(.t 182)]), .none⟩,
   ⟨(.some 184), (.faddr 3 (.t 5)), .none⟩,
   ⟨.none, (.store 1 (.t 184) (.t 183)), .none⟩]))
abbrev c26_52 : PCode :=
 (.seq (.region [⟨(.some 169), (.mov (.t 0)), .none⟩,
   ⟨(.some 170), (.faddr 3 (.t 3)), .none⟩,
   ⟨(.some 171), (.load .false 1 (.t 170) .false), .none⟩,
   ⟨(.some 172), (.len (.t 171)), .none⟩,
   ⟨(.some 173), (.call0 44 [(.t 169), (.t 172)]), .none⟩,
   ⟨(.some 174), (.faddr 0 (.t 5)), .none⟩,
   ⟨.none, (.store 1 (.t 174) (.t 173)), .none⟩])
 c26_53)
abbrev c26_51 : PCode :=
 (.cond (.t 168)
  c26_52
  .skip)
abbrev c26_54 : PCode :=
 (.keep [4, 5] (.seq (.region [⟨(.some 185), (.load .true 4 (.t 5) .false), .none⟩,
   ⟨.none, (.store 4 (.t 4) (.t 185)), .none⟩])
 .ret))
abbrev c26_50 : PCode :=
 (.keep [0, 3, 4, 5] (.seq (.seq (.region [⟨(.some 166), (.faddr 0 (.t 3)), .none⟩,
   ⟨(.some 167), (.load .false 1 (.t 166) .false), .none⟩,
   ⟨(.some 168), (.bin .eql (.t 167) (.c (.d (.int .i64 8)))), .none⟩])
 c26_51)
 c26_54))
abbrev c26_47 : PCode :=
 (.keep [0, 3, 4, 5] (.seq (.seq (.region [⟨(.some 158), (.faddr 0 (.t 3)), .none⟩,
   ⟨(.some 159), (.load .false 1 (.t 158) .false), .none⟩,
   ⟨(.some 160), (.bin .eql (.t 159) (.c (.d (.int .i64 7)))), .none⟩])
 c26_48)
 c26_50))
abbrev c26_39 : PCode :=
 (.keep [0, 3, 4, 5] (.seq (.seq (.region [⟨(.some 136), (.faddr 0 (.t 3)), .none⟩,
   ⟨(.some 137), (.load .false 1 (.t 136) .false), .none⟩,
   ⟨(.some 138), (.bin .eql (.t 137) (.c (.d (.int .i64 6)))), .none⟩])
 c26_40)
 c26_47))
abbrev c26_27 : PCode :=
 (.keep [0, 3, 4, 5] (.seq (.seq (.region [⟨(.some 102), (.faddr 0 (.t 3)), .none⟩,
   ⟨(.some 103), (.load .false 1 (.t 102) .false), .none⟩,
   ⟨(.some 104), (.bin .eql (.t 103) (.c (.d (.int .i64 5)))), .none⟩,
   ⟨(.some 105), (.mov (.t 104)), .none⟩,
   ⟨(.some 106), (.mov (.t 0)), (.some (105, .true))⟩,
   ⟨(.some 107), (.nilchk (.t 106)), (.some (105, .true))⟩,
   ⟨(.some 108), (.faddr 2 (.t 107)), (.some (105, .true))⟩,
   ⟨(.some 109), (.load .false 1 (.t 108) .false), (.some (105, .true))⟩,
   ⟨(.some 110), (.bin .leq (.t 109) (.c (.d (.int .i64 100)))), (.some (105, .true))⟩,
   ⟨(.some 111), (.pick (.t 105) (.t 110) (.c (.d (.bool .false)))), .none⟩])
 c26_28)
 c26_39))
abbrev c26_18 : PCode :=
 (.keep [0, 3, 4, 5] (.seq (.seq (.region [⟨(.some 79), (.faddr 0 (.t 3)), .none⟩,
   ⟨(.some 80), (.load .false 1 (.t 79) .false), .none⟩,
   ⟨(.some 81), (.bin .eql (.t 80) (.c (.d (.int .i64 4)))), .none⟩])
 c26_19)
 c26_27))
abbrev c26_14 : PCode :=
 (.keep [0, 3, 4, 5] (.seq (.seq (.region [⟨(.some 43), (.faddr 0 (.t 3)), .none⟩,
   ⟨(.some 44), (.load .false 1 (.t 43) .false), .none⟩,
   ⟨(.some 45), (.bin .eql (.t 44) (.c (.d (.int .i64 3)))), .none⟩,
   ⟨(.some 46), (.mov (.t 45)), .none⟩,
   ⟨(.some 47), (.mov (.t 0)), (.some (46, .true))⟩,
   ⟨(.some 48), (.nilchk (.t 47)), (.some (46, .true))⟩,
   ⟨(.some 49), (.faddr 0 (.t 48)), (.some (46, .true))⟩,
   ⟨(.some 50), (.load .false 1 (.t 49) .false), (.some (46, .true))⟩,
   ⟨(.some 51), (.len (.t 50)), (.some (46, .true))⟩,
   ⟨(.some 52), (.bin .gtr (.t 51) (.c (.d (.int .i64 0)))), (.some (46, .true))⟩,
   ⟨(.some 53), (.pick (.t 46) (.t 52) (.c (.d (.bool .false)))), .none⟩])
 c26_15)
 c26_18))
abbrev c26_8 : PCode :=
 (.keep [0, 3, 4, 5] (.seq (.seq (.region [⟨(.some 30), (.faddr 0 (.t 3)), .none⟩,
   ⟨(.some 31), (.load .false 1 (.t 30) .false), .none⟩,
   ⟨(.some 32), (.bin .eql (.t 31) (.c (.d (.int .i64 2)))), .none⟩])
 c26_9)
 c26_14))
abbrev c26_5 : PCode :=
 (.keep [0, 3, 4, 5] (.seq (.seq (.region [⟨(.some 24), (.faddr 0 (.t 3)), .none⟩,
   ⟨(.some 25), (.load .false 1 (.t 24) .false), .none⟩,
   ⟨(.some 26), (.bin .eql (.t 25) (.c (.d (.int .i64 1)))), .none⟩])
 c26_6)
 c26_8))
abbrev c26_2 : PCode :=
 (.seq (.seq (.region [⟨(.some 18), (.faddr 0 (.t 3)), .none⟩,
   ⟨(.some 19), (.load .false 1 (.t 18) .false), .none⟩,
   ⟨(.some 20), (.bin .eql (.t 19) (.c (.d (.int .i64 0)))), .none⟩])
 c26_3)
 c26_5)
abbrev c26_1 : PCode :=
 (.keep [0, 3, 4] (.seq (.region [⟨(.some 5), (.alloc [(.d (.int .i64 0)), (.d (.flt .f64 0)), (.d (.str (bs []))), (.full [])]), .none⟩])
 c26_2))
abbrev c26_0 : PCode :=
 (.seq (.region [⟨(.some 11), (.mov (.t 0)), .none⟩,
   ⟨(.some 12), (.nilchk (.t 11)), .none⟩,
   ⟨(.some 13), (.faddr 2 (.t 12)), .none⟩,
   ⟨(.some 14), (.load .false 1 (.t 13) .false), .none⟩,
   ⟨(.some 15), (.bin .add (.t 14) (.c (.d (.int .i64 1)))), .none⟩,
   ⟨(.some 16), (.nilchk (.t 11)), .none⟩,
   ⟨(.some 17), (.faddr 2 (.t 16)), .none⟩,
   ⟨.none, (.store 1 (.t 17) (.t 15)), .none⟩])
 c26_1)
def c26 : PFun := ⟨
 (.seq (.region [⟨(.some 3), (.box 4 (.t 1)), .none⟩,
   ⟨(.some 4), (.alloc [(.d (.int .i64 0)), (.d (.flt .f64 0)), (.d (.str (bs []))), (.full [])]), .none⟩])
 c26_0),
 2, 186, [(.cell 4 .true 4)]⟩

theorem e26 : entered Try.prog 26 = true := by kernel_rfl
theorem k26 : compFun Try.prog (fun i => if i = 27 then 6 else if i = 32 then 6 else 0) 26 = some c26.er := by kernel_rfl


theorem box_sat (pm : Nat) (l l' : List AV) : Sat [.box pm l] (fun _ : Unit => [.box pm l']) := fun _ => ⟨(), fun x hx => by
  rw [List.mem_singleton.1 hx]
  exact .inl ⟨_, List.mem_cons_self, _, rfl⟩, by simp⟩
theorem wrap32 (n : Int) (hn : -9223372036854775808 ≤ n ∧ n ≤ 9223372036854775807) : IntKind.i64.wrap (IntKind.i32.wrap n) = if n % 4294967296 ≥ 2147483648 then n % 4294967296 - 4294967296 else n % 4294967296 := by
  rw [IntKind.wrap_i64, IntKind.wrap_i32]
  split <;> omega
theorem letters_succ (j : Nat) : letters (j + 1) = letters j ++ bs [97 + j % 26] := by
  apply ByteArray.ext
  rw [ByteArray.data_append]
  simp [letters, bs, List.range_succ]
theorem alpha_at : ∀ i : Fin 26, (bs [97, 98, 99, 100, 101, 102, 103, 104, 105, 106, 107, 108, 109, 110, 111, 112, 113, 114, 115, 116, 117, 118, 119, 120, 121, 122]).extract i.val (i.val + 1) = bs [97 + i.val] := by decide +kernel
theorem alpha_app (j : Nat) : letters j ++ (bs [97, 98, 99, 100, 101, 102, 103, 104, 105, 106, 107, 108, 109, 110, 111, 112, 113, 114, 115, 116, 117, 118, 119, 120, 121, 122]).extract (j % 26) (j % 26 + 1) = letters (j + 1) := by
  rw [letters_succ, alpha_at ⟨j % 26, Nat.mod_lt _ (by decide)⟩]
theorem refBuildC (l : List Int) (hl : l.length < 2 ^ 40) (hr : ∀ x ∈ l, -9223372036854775808 ≤ x ∧ x ≤ 9223372036854775807) (pm : Nat) : ∀ (e : Nat) (T : KT) (a m : Nat), WT e T → a ≤ m → m + cost e T < 2 ^ 60 →
    CL (PCalls Try.prog GG) 26 [ptrAt pm, T.rav] [.box pm [.d (i64s l), i64 a, i64 m]] (fun _ : Unit => (buildM l e T a m).v.av) (fun _ => [.box pm [.d (i64s l), i64 (buildM l e T a m).at_, i64 (buildM l e T a m).made]]) := by
  intro e
  induction e with
  | zero => intro T a m h; cases h
  | succ d ih =>
  intro T a m hw ham hcost
  have hc1 : 1 ≤ cost (d + 1) T := by simp only [cost]; omega
  refine ⟨box_sat _ _ _, ?_⟩
  have hn := nextN_in hr a
  cases hw with
  | base _ k hk =>
    have : k = 0 ∨ k = 1 ∨ k = 2 ∨ k = 3 := by omega
    rcases this with rfl | rfl | rfl | rfl
    · simp only [buildM_0 (t := .mk 0 0 [] []) rfl, VT.av_eq, VT.num, VT.pj, KT.rav_eq, KT.pj, List.length_nil, List.map_nil, List.map_cons]
      intro st t hL; refine pcalls_of k26 e26 (of_decide_eq_true rfl) ?_; dsimp only [c26]; generalize hQ : pfin _ _ = Q
      (refine gor hL ?_; (repeat (clear hL; intro t hL; refine gor hL ?_))); refine po_boxA hL ?_; clear hL; intro p3 t hL
      (refine gor hL ?_; (repeat (clear hL; intro t hL; refine gor hL ?_))); (with_reducible refine po_allocL hL rfl ?_); clear hL; intro p4 t hL
      refine gor hL ?_; (repeat (clear hL; intro t hL; refine gor hL ?_))
      rw [IntWalk.i64_in ((m : Int) + 1) (by omega), show (m : Int) + 1 = ((m + 1 : Nat) : Int) from rfl] at hL
      (refine gor hL ?_; (repeat (clear hL; intro t hL; refine gor hL ?_))); (with_reducible refine po_allocL hL rfl ?_); clear hL; intro p5 t hL
      refine gor hL ?_; (repeat (clear hL; intro t hL; refine gor hL ?_)); (repeat (refine pseqk ?_; refine gor hL ?_; (repeat (clear hL; intro t hL; refine gor hL ?_))))
      refine po_callK hL (nextRC l hl hr a (by omega) 2 (by omega) (i64 (m + 1 : Nat)) pm) ?_; clear hL; intro _ t hL
      refine gor hL ?_; (repeat (clear hL; intro t hL; refine gor hL ?_)); (repeat (refine pseqk ?_; refine gor hL ?_; (repeat (clear hL; intro t hL; refine gor hL ?_))))
      rw [← hQ]
      exact pfinK () (pret_one (pres_cellL hL rfl (by repeat (first | exact Rem.head | apply Rem.tail)) rfl)) (.inr rfl) hL
    · simp only [buildM_1 (t := .mk 1 0 [] []) rfl, VT.av_eq, VT.num, VT.pj, KT.rav_eq, KT.pj, List.length_nil, List.map_nil, List.map_cons]
      intro st t hL; refine pcalls_of k26 e26 (of_decide_eq_true rfl) ?_; dsimp only [c26]; generalize hQ : pfin _ _ = Q
      (refine gor hL ?_; (repeat (clear hL; intro t hL; refine gor hL ?_))); refine po_boxA hL ?_; clear hL; intro p3 t hL
      (refine gor hL ?_; (repeat (clear hL; intro t hL; refine gor hL ?_))); (with_reducible refine po_allocL hL rfl ?_); clear hL; intro p4 t hL
      refine gor hL ?_; (repeat (clear hL; intro t hL; refine gor hL ?_))
      rw [IntWalk.i64_in ((m : Int) + 1) (by omega), show (m : Int) + 1 = ((m + 1 : Nat) : Int) from rfl] at hL
      (refine gor hL ?_; (repeat (clear hL; intro t hL; refine gor hL ?_))); (with_reducible refine po_allocL hL rfl ?_); clear hL; intro p5 t hL
      refine gor hL ?_; (repeat (clear hL; intro t hL; refine gor hL ?_)); (repeat (refine pseqk ?_; refine gor hL ?_; (repeat (clear hL; intro t hL; refine gor hL ?_))))
      refine po_callK hL (nextRC l hl hr a (by omega) 65536 (by omega) (i64 (m + 1 : Nat)) pm) ?_; clear hL; intro _ t hL
      refine gor hL ?_; (repeat (clear hL; intro t hL; refine gor hL ?_)); (repeat (refine pseqk ?_; refine gor hL ?_; (repeat (clear hL; intro t hL; refine gor hL ?_))))
      rw [← hQ]
      exact pfinK () (pret_one (pres_cellL hL rfl (by repeat (first | exact Rem.head | apply Rem.tail)) rfl)) (.inr rfl) hL
    · simp only [buildM_2 (t := .mk 2 0 [] []) rfl, VT.av_eq, VT.num, VT.pj, KT.rav_eq, KT.pj, List.length_nil, List.map_nil, List.map_cons]
      rw [wrap32 _ hn]
      intro st t hL; refine pcalls_of k26 e26 (of_decide_eq_true rfl) ?_; dsimp only [c26]; generalize hQ : pfin _ _ = Q
      (refine gor hL ?_; (repeat (clear hL; intro t hL; refine gor hL ?_))); refine po_boxA hL ?_; clear hL; intro p3 t hL
      (refine gor hL ?_; (repeat (clear hL; intro t hL; refine gor hL ?_))); (with_reducible refine po_allocL hL rfl ?_); clear hL; intro p4 t hL
      refine gor hL ?_; (repeat (clear hL; intro t hL; refine gor hL ?_))
      rw [IntWalk.i64_in ((m : Int) + 1) (by omega), show (m : Int) + 1 = ((m + 1 : Nat) : Int) from rfl] at hL
      (refine gor hL ?_; (repeat (clear hL; intro t hL; refine gor hL ?_))); (with_reducible refine po_allocL hL rfl ?_); clear hL; intro p5 t hL
      refine gor hL ?_; (repeat (clear hL; intro t hL; refine gor hL ?_)); (repeat (refine pseqk ?_; refine gor hL ?_; (repeat (clear hL; intro t hL; refine gor hL ?_))))
      refine po_callK hL (nextRC l hl hr a (by omega) 4294967296 (by omega) (i64 (m + 1 : Nat)) pm) ?_; clear hL; intro _ t hL
      refine gor hL ?_; (repeat (clear hL; intro t hL; refine gor hL ?_)); (repeat (refine pseqk ?_; refine gor hL ?_; (repeat (clear hL; intro t hL; refine gor hL ?_))))
      refine pcond_b rfl (fun h => ?_) (fun h => ?_)
      · have h' : nextN l a % 4294967296 ≥ 2147483648 := by simpa using h
        refine gor hL ?_; (repeat (clear hL; intro t hL; refine gor hL ?_)); (repeat (refine pseqk ?_; refine gor hL ?_; (repeat (clear hL; intro t hL; refine gor hL ?_))))
        rw [IntWalk.i64_in (nextN l a % 4294967296 - 4294967296) (by omega)] at hL
        rw [if_pos h'] at hQ
        rw [← hQ]
        exact pfinK () (pret_one (pres_cellL hL rfl (by repeat (first | exact Rem.head | apply Rem.tail)) rfl)) (.inr rfl) hL
      · have h' : ¬ nextN l a % 4294967296 ≥ 2147483648 := by simpa using h
        refine gor hL ?_; (repeat (clear hL; intro t hL; refine gor hL ?_)); (repeat (refine pseqk ?_; refine gor hL ?_; (repeat (clear hL; intro t hL; refine gor hL ?_))))
        rw [if_neg h'] at hQ
        rw [← hQ]
        exact pfinK () (pret_one (pres_cellL hL rfl (by repeat (first | exact Rem.head | apply Rem.tail)) rfl)) (.inr rfl) hL
    · simp only [buildM_3 (t := .mk 3 0 [] []) rfl, VT.av_eq, VT.num, VT.pj, KT.rav_eq, KT.pj, List.length_nil, List.map_nil, List.map_cons]
      intro st t hL; refine pcalls_of k26 e26 (of_decide_eq_true rfl) ?_; dsimp only [c26]; generalize hQ : pfin _ _ = Q
      (refine gor hL ?_; (repeat (clear hL; intro t hL; refine gor hL ?_))); refine po_boxA hL ?_; clear hL; intro p3 t hL
      (refine gor hL ?_; (repeat (clear hL; intro t hL; refine gor hL ?_))); (with_reducible refine po_allocL hL rfl ?_); clear hL; intro p4 t hL
      refine gor hL ?_; (repeat (clear hL; intro t hL; refine gor hL ?_))
      rw [IntWalk.i64_in ((m : Int) + 1) (by omega), show (m : Int) + 1 = ((m + 1 : Nat) : Int) from rfl] at hL
      (refine gor hL ?_; (repeat (clear hL; intro t hL; refine gor hL ?_))); (with_reducible refine po_allocL hL rfl ?_); clear hL; intro p5 t hL
      refine gor hL ?_; (repeat (clear hL; intro t hL; refine gor hL ?_)); (repeat (refine pseqk ?_; refine gor hL ?_; (repeat (clear hL; intro t hL; refine gor hL ?_))))
      refine pcond_b rfl (fun h => ?_) (fun h => ?_)
      · have h' : l.length ≠ 0 := by
          intro e
          simp [e] at h
        have hlt : a % l.length < l.length := Nat.mod_lt _ (by omega)
        have hy : l[a % l.length]? = some (nextN l a) := by
          rw [nextN, if_neg h', List.getD_eq_getElem?_getD, List.getElem?_eq_getElem hlt]; rfl
        have e2 : nextA l a = a + 1 := by rw [nextA, if_neg h']
        rw [e2] at hQ
        refine gor hL ?_; (repeat (clear hL; intro t hL; refine gor hL ?_))
        refine po_remN rfl rfl h' ?_
        refine gor hL ?_; (repeat (clear hL; intro t hL; refine gor hL ?_)); (repeat (refine pseqk ?_; refine gor hL ?_; (repeat (clear hL; intro t hL; refine gor hL ?_))))
        rw [IntWalk.i64_in ((a : Int) + 1) (by omega), show (a : Int) + 1 = ((a + 1 : Nat) : Int) from rfl] at hL
        rw [← hQ]
        exact pfinK () (pret_one (pres_cellL hL rfl (by repeat (first | exact Rem.head | apply Rem.tail)) rfl)) (.inr rfl) hL
      · have h' : l.length = 0 := by
          have : ¬ ((l.length : Int) > 0) := by simpa using h
          omega
        have e1 : nextN l a = 0 := by rw [nextN, if_pos h']
        have e2 : nextA l a = a := by rw [nextA, if_pos h']
        rw [e1, e2, show FloatKind.f64.nearest 0 = 0 by decide +kernel] at hQ
        refine gor hL ?_; (repeat (clear hL; intro t hL; refine gor hL ?_)); (repeat (refine pseqk ?_; refine gor hL ?_; (repeat (clear hL; intro t hL; refine gor hL ?_))))
        rw [← hQ]
        exact pfinK () (pret_one (pres_cellL hL rfl (by repeat (first | exact Rem.head | apply Rem.tail)) rfl)) (.inr rfl) hL
  | text _ mo hm =>
    simp only [buildM_4 (t := .mk 4 mo [] []) rfl, VT.av_eq, VT.num, VT.pj, KT.rav_eq, KT.pj, List.length_nil, List.map_nil, List.map_cons]
    intro st t hL; refine pcalls_of k26 e26 (of_decide_eq_true rfl) ?_; dsimp only [c26]; generalize hQ : pfin _ _ = Q
    (refine gor hL ?_; (repeat (clear hL; intro t hL; refine gor hL ?_))); refine po_boxA hL ?_; clear hL; intro p3 t hL
    (refine gor hL ?_; (repeat (clear hL; intro t hL; refine gor hL ?_))); (with_reducible refine po_allocL hL rfl ?_); clear hL; intro p4 t hL
    refine gor hL ?_; (repeat (clear hL; intro t hL; refine gor hL ?_))
    rw [IntWalk.i64_in ((m : Int) + 1) (by omega), show (m : Int) + 1 = ((m + 1 : Nat) : Int) from rfl] at hL
    (refine gor hL ?_; (repeat (clear hL; intro t hL; refine gor hL ?_))); (with_reducible refine po_allocL hL rfl ?_); clear hL; intro p5 t hL
    refine gor hL ?_; (repeat (clear hL; intro t hL; refine gor hL ?_)); (repeat (refine pseqk ?_; refine gor hL ?_; (repeat (clear hL; intro t hL; refine gor hL ?_))))
    refine gnm ?_; rw [IntWalk.i64_in (mo + 1) (by omega)]
    refine po_callK hL (nextRC l hl hr a (by omega) (mo + 1) (by omega) (i64 (m + 1 : Nat)) pm) ?_; clear hL; intro _ t hL
    refine gor hL ?_; (repeat (clear hL; intro t hL; refine gor hL ?_)); (repeat (refine pseqk ?_; refine gor hL ?_; (repeat (clear hL; intro t hL; refine gor hL ?_))))
    have hn1 := Int.emod_lt_of_pos (nextN l a) (show (0 : Int) < mo + 1 by omega)
    have hn2 := Int.emod_nonneg (nextN l a) (show (mo + 1 : Int) ≠ 0 by omega)
    rw [show min (max mo 0) 9223372036854775806 + 1 = mo + 1 by omega] at hQ
    generalize nextN l a % (mo + 1) = n at *
    obtain ⟨k, rfl⟩ : ∃ k : Nat, n = k := ⟨n.toNat, by omega⟩
    rw [show (min (k : Int) 60).toNat = k by omega] at hQ
    refine pblock (pupA k (fun j s u => s = put (put (put (put (put (put (fun _ => .undef) (some 6) (i64 k)) (some 5) (ptrAt p5)) (some 4) (ptrAt p4)) (some 3) (ptrAt p3)) (some 0) (ptrAt pm)) (some 7) (i64 j) ∧ Lay st [.box p5 [.d (.int .i64 0), .d (.flt .f64 0), .d (.str (letters j)), .full []], .box pm [.d (i64s l), i64 (nextA l a), i64 (m + 1 : Nat)], .box p4 [.d (.int .i64 0), .d (.flt .f64 0), .d (.str (bs [])), .full []], .box p3 [.d (.int .i64 4), .d (.int .i64 mo), .d (.int .i64 (0 : Nat)), .d (.sl [])]] u) ⟨trimA, hL.pk⟩ ?_)
    clear hL
    rintro j s t hj ⟨rfl, hL⟩
    refine gor hL ?_; (repeat (clear hL; intro t hL; refine gor hL ?_))
    refine pcond_b rfl (fun h => ?_) (fun h => ?_)
    · have hj' : j < k := by simpa using h
      refine gor hL ?_; (repeat (clear hL; intro t hL; refine gor hL ?_))
      refine pblock ?_
      refine gor hL ?_; (repeat (clear hL; intro t hL; refine gor hL ?_))
      have e1 : (j : Int).tmod 26 = ((j % 26 : Nat) : Int) := by rw [IntWalk.rem_in _ _ (by omega)]; omega
      refine gnm ?_; rw [e1, IntWalk.i64_in (((j % 26 : Nat) : Int) + 1) (by omega), show ((j % 26 : Nat) : Int) + 1 = ((j % 26 + 1 : Nat) : Int) from rfl]
      refine po rfl (slc_str rfl rfl rfl (by omega) (by omega) (by show _ ≤ ((26 : Nat) : Int); omega)) ?_
      refine gor hL ?_; (repeat (clear hL; intro t hL; refine gor hL ?_))
      have hsz : ((bs [97, 98, 99, 100, 101, 102, 103, 104, 105, 106, 107, 108, 109, 110, 111, 112, 113, 114, 115, 116, 117, 118, 119, 120, 121, 122]).extract (j % 26) (j % 26 + 1)).size ≤ 26 := by
        rw [alpha_at ⟨j % 26, Nat.mod_lt _ (by decide)⟩]; show 1 ≤ 26; decide
      refine po rfl (str_add rfl rfl (by rw [letters_size, Int.toNat_natCast, Int.toNat_natCast]; omega)) ?_
      refine gor hL ?_; (repeat (clear hL; intro t hL; refine gor hL ?_))
      rw [Int.toNat_natCast, Int.toNat_natCast, alpha_app] at hL
      refine gor hL ?_; (repeat (clear hL; intro t hL; refine gor hL ?_))
      refine gnm ?_; rw [IntWalk.i64_in ((j : Int) + 1) (by omega)]
      exact ⟨hj', trimA, hL.pk⟩
    · have hj' : ¬ j < k := by simpa using h
      obtain rfl : j = k := by omega
      refine gor hL ?_; (repeat (clear hL; intro t hL; refine gor hL ?_)); (repeat (refine pseqk ?_; refine gor hL ?_; (repeat (clear hL; intro t hL; refine gor hL ?_))))
      rw [← hQ]
      exact pfinK () (pret_one (pres_cellL hL rfl (by repeat (first | exact Rem.head | apply Rem.tail)) rfl)) (.inr rfl) hL
  | seq _ mo o hm ho =>
    have hco : cost (d + 1) (.mk 5 mo [] [o]) = 1 + 4 * cost d o := by simp only [cost, KT.of, List.map_cons, List.map_nil, List.sum_cons, List.sum_nil]; omega
    rw [hco] at hcost
    by_cases hm1 : m + 1 ≤ 100
    · simp only [buildM_5 (t := .mk 5 mo [] [o]) rfl hm1, VT.av_eq, VT.num, VT.pj, KT.rav_eq, KT.pj, List.length_nil, List.map_nil, List.map_cons]
      intro st t hL; refine pcalls_of k26 e26 (of_decide_eq_true rfl) ?_; dsimp only [c26]; generalize hQ : pfin _ _ = Q
      (refine gor hL ?_; (repeat (clear hL; intro t hL; refine gor hL ?_))); refine po_boxA hL ?_; clear hL; intro p3 t hL
      (refine gor hL ?_; (repeat (clear hL; intro t hL; refine gor hL ?_))); (with_reducible refine po_allocL hL rfl ?_); clear hL; intro p4 t hL
      refine gor hL ?_; (repeat (clear hL; intro t hL; refine gor hL ?_))
      rw [IntWalk.i64_in ((m : Int) + 1) (by omega), show (m : Int) + 1 = ((m + 1 : Nat) : Int) from rfl] at hL
      (refine gor hL ?_; (repeat (clear hL; intro t hL; refine gor hL ?_))); (with_reducible refine po_allocL hL rfl ?_); clear hL; intro p5 t hL
      refine gor hL ?_; (repeat (clear hL; intro t hL; refine gor hL ?_)); (repeat (refine pseqk ?_; refine gor hL ?_; (repeat (clear hL; intro t hL; refine gor hL ?_))))
      refine pcond_b rfl (fun hq => ?_) (fun hq => ?_)
      · refine gor hL ?_; (repeat (clear hL; intro t hL; refine gor hL ?_)); (repeat (refine pseqk ?_; refine gor hL ?_; (repeat (clear hL; intro t hL; refine gor hL ?_))))
        refine po_callK hL (nextRC l hl hr a (by omega) 4 (by omega) (i64 (m + 1 : Nat)) pm) ?_; clear hL; intro _ t hL
        refine gor hL ?_; (repeat (clear hL; intro t hL; refine gor hL ?_))
        have hn1 := Int.emod_lt_of_pos (nextN l a) (show (0 : Int) < 4 by decide)
        have hn2 := Int.emod_nonneg (nextN l a) (show (4 : Int) ≠ 0 by decide)
        rw [show [o].getD 0 (.mk 0 0 [] []) = o from rfl] at hQ
        generalize nextN l a % 4 = n at *
        obtain ⟨k, hk⟩ : ∃ k : Nat, min (min n mo) (4 * (([o] : List KT).length : Int)) = k := ⟨(min (min n mo) (4 * (([o] : List KT).length : Int))).toNat, by simp; omega⟩
        have hk' : min n mo = k := by simp at hk; omega
        have hk3 : k ≤ 3 := by omega
        rw [hk, Int.toNat_natCast] at hQ
        refine pjoin (fun s u => s = put (put (put (put (put (fun _ => .undef) (some 8) (i64 k)) (some 5) (ptrAt p5)) (some 4) (ptrAt p4)) (some 3) (ptrAt p3)) (some 0) (ptrAt pm) ∧ u = t) ?_ ?_
        · refine gor hL ?_; (repeat (clear hL; intro t hL; refine gor hL ?_))
          refine pcond_b rfl (fun hmn => ?_) (fun hmn => ?_)
          · have hmn' : n > mo := by simpa using hmn
            refine gor hL ?_; (repeat (clear hL; intro t hL; refine gor hL ?_))
            refine gnm ?_; rw [show mo = (k : Int) by omega]
            exact ⟨tr2, trivial⟩
          · have hmn' : ¬ n > mo := by simpa using hmn
            refine gor hL ?_; (repeat (clear hL; intro t hL; refine gor hL ?_))
            refine gnm ?_; rw [show n = (k : Int) by omega]
            exact ⟨tr2, trivial⟩
        rintro s u ⟨rfl, rfl⟩
        refine gor hL ?_; (repeat (clear hL; intro t hL; refine gor hL ?_)); (repeat (refine pseqk ?_; refine gor hL ?_; (repeat (clear hL; intro t hL; refine gor hL ?_))))
        have hbd0 := fun j => foldB_bound (c := cost d) (f := buildM l d) (ts := List.replicate j o) (fun u _ a m h => buildM_bound l d u a m h) (nextA l a) (m + 1) (by have := nextA_le l a; omega)
        refine pblock (pupA k (fun j s u => ∃ v, s = put (put (put (put (put (put (fun _ => .undef) (some 8) (i64 k)) (some 5) (ptrAt p5)) (some 4) (ptrAt p4)) (some 3) (ptrAt p3)) (some 0) (ptrAt pm)) (some 9) (i64 j) ∧ Lay st [.box p5 [.d (.int .i64 0), .d (.flt .f64 0), .d (.str (bs [])), v], .vec v ((foldB (buildM l d) (List.replicate j o) (nextA l a) (m + 1)).1.map VT.row) 4, .box pm [.d (i64s l), i64 (foldB (buildM l d) (List.replicate j o) (nextA l a) (m + 1)).2.1, i64 (foldB (buildM l d) (List.replicate j o) (nextA l a) (m + 1)).2.2], .box p4 [.d (.int .i64 0), .d (.flt .f64 0), .d (.str (bs [])), .full []], .box p3 [.d (.int .i64 5), .d (.int .i64 mo), .d (.int .i64 (0 : Nat)), .d (.sl [o.rrow])]] u) ⟨.full [], trimA, (hL.full [] 4).pk⟩ ?_)
        clear hL
        rintro j s t hj ⟨v, rfl, hL⟩
        have hbd := hbd0 j
        rw [List.map_replicate, List.sum_replicate_nat] at hbd
        have hjc : j * cost d o ≤ 3 * cost d o := Nat.mul_le_mul_right _ (by omega)
        have hol := foldB_len (buildM l d) (List.replicate j o) (nextA l a) (m + 1)
        have hsn := foldB_snoc (buildM l d) (List.replicate j o) o (nextA l a) (m + 1)
        rw [← List.replicate_succ'] at hsn
        rw [List.length_replicate] at hol
        have fv := hL.vk v
        obtain ⟨fv_r, fv_w, fv_w1, fv_c, fv_s, fv_d⟩ := id fv
        refine gor hL ?_; (repeat (clear hL; intro t hL; refine gor hL ?_))
        refine pcond_b rfl (fun h => ?_) (fun h => ?_)
        · have hj' : j < k := by simpa using h
          rw [hsn]
          clear hsn
          generalize (foldB (buildM l d) (List.replicate j o) (nextA l a) (m + 1)) = F at *
          obtain ⟨os, A, M'⟩ := F
          simp only at hL hbd hol ⊢
          refine gor hL ?_; (repeat (clear hL; intro t hL; refine gor hL ?_))
          refine pblock ?_
          refine gor hL ?_; (repeat (clear hL; intro t hL; refine gor hL ?_))
          refine po_loadSt (H := [.box p5 [.d (.int .i64 0), .d (.flt .f64 0), .d (.str (bs [])), v], .box p3 [.d (.int .i64 5), .d (.int .i64 mo), .d (.int .i64 (0 : Nat)), .d (.sl [o.rrow])]]) (Stb.start _ (fun _ => .undef) t) hL rfl rfl (by repeat (first | exact Rem.head | apply Rem.tail)) (by (repeat (first | (with_reducible exact Pick.nil) | ((with_reducible apply Pick.cons); · (repeat (first | exact Rem.head | apply Rem.tail)))))) rfl (fun hS => ?_)
          refine gor hL ?_; (repeat (clear hL; intro t hL; refine gor hL ?_))
          refine po_loadSt hS hL rfl rfl (by repeat (first | exact Rem.head | apply Rem.tail)) (by (repeat (first | (with_reducible exact Pick.nil) | ((with_reducible apply Pick.cons); · (repeat (first | exact Rem.head | apply Rem.tail)))))) rfl (fun hS => ?_)
          refine gor hL ?_; (repeat (clear hL; intro t hL; refine gor hL ?_))
          refine po_iaddr0 (l := [o]) (f := KT.rrow) rfl (KT.rrow_len o) ?_
          refine gor hL ?_; (repeat (clear hL; intro t hL; refine gor hL ?_))
          have hc := ih o A M' ho hbd.1 (by omega)
          simp only [KT.rav_eq] at hc
          refine po_callStA hS hL (hc) ?_; clear hL; intro _ t hL hS
          rw [VT.av_eq]
          refine gor hL ?_; (repeat (clear hL; intro t hL; refine gor hL ?_))
          have hr4 : ∀ r ∈ os.map VT.row, r.length = 4 := fun r hr => by
            obtain ⟨i, _, rfl⟩ := List.mem_map.1 hr; exact VT.row_len _
          refine po_appA hL hr4 ?_ ?_; (· simp; omega); clear hL; intro v' t f' hL; obtain ⟨f'_r, f'_w, f'_w1, f'_c, f'_s, f'_d⟩ := id f'
          rw [show os.map VT.row ++ [[.int .i64 (buildM l d o A M').v.n, .flt .f64 (buildM l d o A M').v.f, .str (buildM l d o A M').v.s, .sl ((buildM l d o A M').v.of.map VT.row)]] = (os ++ [(buildM l d o A M').v]).map VT.row by rw [List.map_append, List.map_cons, VT.row_eq (buildM l d o A M').v]; rfl] at hL f' f'_w1
          refine gor hL ?_; (repeat (clear hL; intro t hL; refine gor hL ?_))
          refine po_storeoL hL rfl rfl (by repeat (first | exact Rem.head | apply Rem.tail)) f'_c ⟨rfl, by simp [f'_s]⟩ (of_decide_eq_true rfl) rfl (fun t hL => ?_)
          refine gor hL ?_; (repeat (clear hL; intro t hL; refine gor hL ?_))
          refine gnm ?_; rw [IntWalk.i64_in ((j : Int) + 1) (by omega)]
          exact ⟨hj', v', trimA, hL.pk⟩
        · have hj' : ¬ j < k := by simpa using h
          obtain rfl : j = k := by omega
          refine gor hL ?_; (repeat (clear hL; intro t hL; refine gor hL ?_)); (repeat (refine pseqk ?_; refine gor hL ?_; (repeat (clear hL; intro t hL; refine gor hL ?_))))
          rw [← hQ]
          exact pfinK () (pret_one (pres_cellL hL rfl (by repeat (first | exact Rem.head | apply Rem.tail)) rfl)) (.inr (by simp only [pvwk, List.map_cons, List.map_nil, fv_w1])) hL
      · exfalso
        have : ¬ ((m + 1 : Nat) : Int) ≤ 100 := by simpa using hq
        omega
    · simp only [buildM_5n (t := .mk 5 mo [] [o]) rfl (show 100 < m + 1 by omega), VT.av_eq, VT.zero, VT.pj, KT.rav_eq, KT.pj, List.length_nil, List.map_nil, List.map_cons]
      intro st t hL; refine pcalls_of k26 e26 (of_decide_eq_true rfl) ?_; dsimp only [c26]; generalize hQ : pfin _ _ = Q
      (refine gor hL ?_; (repeat (clear hL; intro t hL; refine gor hL ?_))); refine po_boxA hL ?_; clear hL; intro p3 t hL
      (refine gor hL ?_; (repeat (clear hL; intro t hL; refine gor hL ?_))); (with_reducible refine po_allocL hL rfl ?_); clear hL; intro p4 t hL
      refine gor hL ?_; (repeat (clear hL; intro t hL; refine gor hL ?_))
      rw [IntWalk.i64_in ((m : Int) + 1) (by omega), show (m : Int) + 1 = ((m + 1 : Nat) : Int) from rfl] at hL
      (refine gor hL ?_; (repeat (clear hL; intro t hL; refine gor hL ?_))); (with_reducible refine po_allocL hL rfl ?_); clear hL; intro p5 t hL
      refine gor hL ?_; (repeat (clear hL; intro t hL; refine gor hL ?_)); (repeat (refine pseqk ?_; refine gor hL ?_; (repeat (clear hL; intro t hL; refine gor hL ?_))))
      refine pcond_b rfl (fun hq => ?_) (fun hq => ?_)
      · exfalso
        have : ((m + 1 : Nat) : Int) ≤ 100 := by simpa using hq
        omega
      refine gor hL ?_; (repeat (clear hL; intro t hL; refine gor hL ?_)); (repeat (refine pseqk ?_; refine gor hL ?_; (repeat (clear hL; intro t hL; refine gor hL ?_))))
      rw [← hQ]
      exact pfinK () (pret_one (pres_cellL hL rfl (by repeat (first | exact Rem.head | apply Rem.tail)) rfl)) (.inr rfl) hL
  | reco _ k n o hk hl' hn' hf ho =>
    rcases hk with rfl | rfl
    · simp only [buildM_6 (t := .mk 6 0 n o) rfl, VT.av_eq, VT.num, VT.pj, KT.rav_eq, KT.pj, List.length_nil, List.map_nil, List.map_cons]
      intro st t hL; refine pcalls_of k26 e26 (of_decide_eq_true rfl) ?_; dsimp only [c26]; generalize hQ : pfin _ _ = Q
      (refine gor hL ?_; (repeat (clear hL; intro t hL; refine gor hL ?_))); refine po_boxA hL ?_; clear hL; intro p3 t hL
      (refine gor hL ?_; (repeat (clear hL; intro t hL; refine gor hL ?_))); (with_reducible refine po_allocL hL rfl ?_); clear hL; intro p4 t hL
      refine gor hL ?_; (repeat (clear hL; intro t hL; refine gor hL ?_))
      rw [IntWalk.i64_in ((m : Int) + 1) (by omega), show (m : Int) + 1 = ((m + 1 : Nat) : Int) from rfl] at hL
      (refine gor hL ?_; (repeat (clear hL; intro t hL; refine gor hL ?_))); (with_reducible refine po_allocL hL rfl ?_); clear hL; intro p5 t hL
      refine gor hL ?_; (repeat (clear hL; intro t hL; refine gor hL ?_)); (repeat (refine pseqk ?_; refine gor hL ?_; (repeat (clear hL; intro t hL; refine gor hL ?_))))
      have hco : cost (d + 1) (.mk 6 0 n o) = 1 + 4 * (o.map (cost d)).sum := rfl
      rw [hco] at hcost
      have hsm : ∀ k, ((o.take k).map (cost d)).sum ≤ (o.map (cost d)).sum := fun k => by
        have := congrArg (fun z => (z.map (cost d)).sum) (List.take_append_drop k o)
        simp only [List.map_append, List.sum_append] at this
        omega
      have hbd0 := fun j => foldB_bound (c := cost d) (f := buildM l d) (ts := o.take j) (fun u _ a m h => buildM_bound l d u a m h) a (m + 1) (by omega)
      refine pblock (pupA o.length (fun j s u => ∃ v, s = put (put (put (put (put (fun _ => .undef) (some 5) (ptrAt p5)) (some 4) (ptrAt p4)) (some 3) (ptrAt p3)) (some 0) (ptrAt pm)) (some 10) (i64 j) ∧ Lay st [.box p5 [.d (.int .i64 0), .d (.flt .f64 0), .d (.str (bs [])), v], .vec v ((foldB (buildM l d) (o.take j) a (m + 1)).1.map VT.row) 4, .box pm [.d (i64s l), i64 (foldB (buildM l d) (o.take j) a (m + 1)).2.1, i64 (foldB (buildM l d) (o.take j) a (m + 1)).2.2], .box p4 [.d (.int .i64 0), .d (.flt .f64 0), .d (.str (bs [])), .full []], .box p3 [.d (.int .i64 6), .d (.int .i64 0), .d (.int .i64 n.length), .d (.sl (o.map KT.rrow))]] u) ⟨.full [], trimA, (hL.full [] 4).pk⟩ ?_)
      clear hL
      rintro j s t hj ⟨v, rfl, hL⟩
      have fv := hL.vk v
      obtain ⟨fv_r, fv_w, fv_w1, fv_c, fv_s, fv_d⟩ := id fv
      refine gor hL ?_; (repeat (clear hL; intro t hL; refine gor hL ?_))
      refine pcond_b rfl (fun h => ?_) (fun h => ?_)
      · have hj' : j < o.length := by simpa using h
        obtain ⟨y, hy, hym⟩ := elem_at hj'
        have hbd := hbd0 j
        have hs1 := hsm (j + 1)
        rw [map_take_snoc _ hy, List.sum_append] at hs1
        simp only [List.sum_cons, List.sum_nil, Nat.add_zero] at hs1
        have hol := foldB_len (buildM l d) (o.take j) a (m + 1)
        rw [List.length_take] at hol
        have hsn := foldB_snoc (buildM l d) (o.take j) y a (m + 1)
        rw [← take_snoc hy] at hsn
        rw [hsn]
        clear hsn
        generalize (foldB (buildM l d) (o.take j) a (m + 1)) = F at *
        obtain ⟨os, A, M'⟩ := F
        simp only at hL hbd hol ⊢
        refine gor hL ?_; (repeat (clear hL; intro t hL; refine gor hL ?_))
        refine pblock ?_
        refine gor hL ?_; (repeat (clear hL; intro t hL; refine gor hL ?_))
        refine po_loadSt (H := [.box p5 [.d (.int .i64 0), .d (.flt .f64 0), .d (.str (bs [])), v], .box p3 [.d (.int .i64 6), .d (.int .i64 0), .d (.int .i64 n.length), .d (.sl (o.map KT.rrow))]]) (Stb.start _ (fun _ => .undef) t) hL rfl rfl (by repeat (first | exact Rem.head | apply Rem.tail)) (by (repeat (first | (with_reducible exact Pick.nil) | ((with_reducible apply Pick.cons); · (repeat (first | exact Rem.head | apply Rem.tail)))))) rfl (fun hS => ?_)
        refine gor hL ?_; (repeat (clear hL; intro t hL; refine gor hL ?_))
        refine po_loadSt hS hL rfl rfl (by repeat (first | exact Rem.head | apply Rem.tail)) (by (repeat (first | (with_reducible exact Pick.nil) | ((with_reducible apply Pick.cons); · (repeat (first | exact Rem.head | apply Rem.tail)))))) rfl (fun hS => ?_)
        refine gor hL ?_; (repeat (clear hL; intro t hL; refine gor hL ?_))
        skip
        refine gor hL ?_; (repeat (clear hL; intro t hL; refine gor hL ?_))
        have hc := ih y A M' (ho y hym) hbd.1 (by omega)
        simp only [KT.rav_eq] at hc
        refine po_callStA hS hL (hc) ?_; clear hL; intro _ t hL hS
        rw [VT.av_eq]
        refine gor hL ?_; (repeat (clear hL; intro t hL; refine gor hL ?_))
        have hr4 : ∀ r ∈ os.map VT.row, r.length = 4 := fun r hr => by
          obtain ⟨i, _, rfl⟩ := List.mem_map.1 hr; exact VT.row_len _
        refine po_appA hL hr4 ?_ ?_; (· simp; omega); clear hL; intro v' t f' hL; obtain ⟨f'_r, f'_w, f'_w1, f'_c, f'_s, f'_d⟩ := id f'
        rw [show os.map VT.row ++ [[.int .i64 (buildM l d y A M').v.n, .flt .f64 (buildM l d y A M').v.f, .str (buildM l d y A M').v.s, .sl ((buildM l d y A M').v.of.map VT.row)]] = (os ++ [(buildM l d y A M').v]).map VT.row by rw [List.map_append, List.map_cons, VT.row_eq (buildM l d y A M').v]; rfl] at hL f' f'_w1
        refine gor hL ?_; (repeat (clear hL; intro t hL; refine gor hL ?_))
        refine po_storeoL hL rfl rfl (by repeat (first | exact Rem.head | apply Rem.tail)) f'_c ⟨rfl, by simp [f'_s]⟩ (of_decide_eq_true rfl) rfl (fun t hL => ?_)
        refine gor hL ?_; (repeat (clear hL; intro t hL; refine gor hL ?_))
        refine gnm ?_; rw [IntWalk.i64_in ((j : Int) + 1) (by omega)]
        exact ⟨hj', v', trimA, hL.pk⟩
      · have hj' : ¬ j < o.length := by simpa using h
        obtain rfl : j = o.length := by omega
        rw [List.take_length] at hL fv_w1
        refine gor hL ?_; (repeat (clear hL; intro t hL; refine gor hL ?_)); (repeat (refine pseqk ?_; refine gor hL ?_; (repeat (clear hL; intro t hL; refine gor hL ?_))))
        rw [← hQ]
        exact pfinK () (pret_one (pres_cellL hL rfl (by repeat (first | exact Rem.head | apply Rem.tail)) rfl)) (.inr (by simp only [pvwk, List.map_cons, List.map_nil, fv_w1])) hL
    · simp only [buildM_8 (t := .mk 8 0 n o) rfl (show (KT.mk 8 0 n o).of.length ≠ 0 from show o.length ≠ 0 by omega), VT.av_eq, VT.num, VT.pj, KT.rav_eq, KT.pj, List.length_nil, List.map_nil, List.map_cons]
      intro st t hL; refine pcalls_of k26 e26 (of_decide_eq_true rfl) ?_; dsimp only [c26]; generalize hQ : pfin _ _ = Q
      (refine gor hL ?_; (repeat (clear hL; intro t hL; refine gor hL ?_))); refine po_boxA hL ?_; clear hL; intro p3 t hL
      (refine gor hL ?_; (repeat (clear hL; intro t hL; refine gor hL ?_))); (with_reducible refine po_allocL hL rfl ?_); clear hL; intro p4 t hL
      refine gor hL ?_; (repeat (clear hL; intro t hL; refine gor hL ?_))
      rw [IntWalk.i64_in ((m : Int) + 1) (by omega), show (m : Int) + 1 = ((m + 1 : Nat) : Int) from rfl] at hL
      (refine gor hL ?_; (repeat (clear hL; intro t hL; refine gor hL ?_))); (with_reducible refine po_allocL hL rfl ?_); clear hL; intro p5 t hL
      refine gor hL ?_; (repeat (clear hL; intro t hL; refine gor hL ?_)); (repeat (refine pseqk ?_; refine gor hL ?_; (repeat (clear hL; intro t hL; refine gor hL ?_))))
      refine po_callK hL (nextRC l hl hr a (by omega) (o.length : Int) (by omega) (i64 (m + 1 : Nat)) pm) ?_; clear hL; intro _ t hL
      refine gor hL ?_; (repeat (clear hL; intro t hL; refine gor hL ?_))
      have hn1 := Int.emod_lt_of_pos (nextN l a) (show (0 : Int) < o.length by omega)
      have hn2 := Int.emod_nonneg (nextN l a) (show (o.length : Int) ≠ 0 by omega)
      have hco : cost (d + 1) (.mk 8 0 n o) = 1 + 4 * (o.map (cost d)).sum := rfl
      rw [hco] at hcost
      generalize nextN l a % (o.length : Int) = n' at *
      obtain ⟨k, rfl⟩ : ∃ k : Nat, n' = k := ⟨n'.toNat, by omega⟩
      obtain ⟨y, hy, hym⟩ := elem_at (l := o) (k := k) (by omega)
      rw [Int.toNat_natCast, List.getD_eq_getElem?_getD, hy, Option.getD_some] at hQ
      have hcy := sum_get (c := cost d) hy
      have hna := nextA_le l a
      have hc := ih y (nextA l a) (m + 1) (ho y hym) (by omega) (by omega)
      simp only [KT.rav_eq] at hc
      refine gor hL ?_; (repeat (clear hL; intro t hL; refine gor hL ?_)); (repeat (refine pseqk ?_; refine gor hL ?_; (repeat (clear hL; intro t hL; refine gor hL ?_))))
      refine po_callK hL (hc) ?_; clear hL; intro _ t hL
      rw [VT.av_eq]
      refine gor hL ?_; (repeat (clear hL; intro t hL; refine gor hL ?_)); (repeat (refine pseqk ?_; refine gor hL ?_; (repeat (clear hL; intro t hL; refine gor hL ?_))))
      rw [← hQ]
      exact pfinK () (pret_one (pres_cellL hL rfl (by repeat (first | exact Rem.head | apply Rem.tail)) rfl)) (.inr (by simp only [pvwk, List.map_cons, List.map_nil, VT.row_eq, VT.cs])) hL
  | enum _ n hl' hf =>
    have hf1 := hf.1
    simp only [buildM_7 (t := .mk 7 0 n []) rfl, VT.av_eq, VT.num, VT.pj, KT.rav_eq, KT.pj, List.length_nil, List.map_nil, List.map_cons]
    rw [show (max n.length 1 : Nat) = n.length by omega]
    intro st t hL; refine pcalls_of k26 e26 (of_decide_eq_true rfl) ?_; dsimp only [c26]; generalize hQ : pfin _ _ = Q
    (refine gor hL ?_; (repeat (clear hL; intro t hL; refine gor hL ?_))); refine po_boxA hL ?_; clear hL; intro p3 t hL
    (refine gor hL ?_; (repeat (clear hL; intro t hL; refine gor hL ?_))); (with_reducible refine po_allocL hL rfl ?_); clear hL; intro p4 t hL
    refine gor hL ?_; (repeat (clear hL; intro t hL; refine gor hL ?_))
    rw [IntWalk.i64_in ((m : Int) + 1) (by omega), show (m : Int) + 1 = ((m + 1 : Nat) : Int) from rfl] at hL
    (refine gor hL ?_; (repeat (clear hL; intro t hL; refine gor hL ?_))); (with_reducible refine po_allocL hL rfl ?_); clear hL; intro p5 t hL
    refine gor hL ?_; (repeat (clear hL; intro t hL; refine gor hL ?_)); (repeat (refine pseqk ?_; refine gor hL ?_; (repeat (clear hL; intro t hL; refine gor hL ?_))))
    refine po_callK hL (nextRC l hl hr a (by omega) (n.length : Int) (by omega) (i64 (m + 1 : Nat)) pm) ?_; clear hL; intro _ t hL
    refine gor hL ?_; (repeat (clear hL; intro t hL; refine gor hL ?_)); (repeat (refine pseqk ?_; refine gor hL ?_; (repeat (clear hL; intro t hL; refine gor hL ?_))))
    rw [← hQ]
    exact pfinK () (pret_one (pres_cellL hL rfl (by repeat (first | exact Rem.head | apply Rem.tail)) rfl)) (.inr rfl) hL
end Go.Pv
