/- Functions of the program, by value. No condition. -/
import Derived.Test.YtmcdhendjlijhaaE1
import Derived.Test.YtmcdhendjlijhaaP26
import Derived.Test.YtmcdhendjlijhaaR1
import Derived.Test.YtmcdhendjlijhaaV1
namespace Go.Pv
open Go.Proofs
set_option maxRecDepth 100000
set_option maxHeartbeats 4000000

/-- prompter/real.Bits -/
abbrev c47_2 : PCode :=
 (.seq (.region [⟨(.some 2), (.mov (.c (.d (.int .u64 9221120237041090560)))), .none⟩])
 .ret)
abbrev c47_1 : PCode :=
 (.cond (.t 5)
  c47_2
  .skip)
abbrev c47_3 : PCode :=
 (.keep [0] (.seq (.region [⟨(.some 6), (.mov (.t 0)), .none⟩,
   ⟨(.some 7), (.nat 0 (.t 6)), .none⟩,
   ⟨(.some 2), (.mov (.t 7)), .none⟩])
 .ret))
abbrev c47_0 : PCode :=
 (.seq (.seq (.region [⟨(.some 3), (.mov (.t 0)), .none⟩,
   ⟨(.some 4), (.mov (.t 0)), .none⟩,
   ⟨(.some 5), (.bin .neq (.t 3) (.t 4)), .none⟩])
 c47_1)
 c47_3)
def c47 : PFun := ⟨
 (.seq (.region [⟨(.some 2), (.mov (.c (.d (.int .u64 0)))), .none⟩])
 c47_0),
 1, 8, [(.tmp 2)]⟩

/-- prompter/real.Same -/
abbrev c38_0 : PCode :=
 (.seq (.region [⟨(.some 5), (.mov (.t 0)), .none⟩,
   ⟨(.some 6), (.call0 47 [(.t 5)]), .none⟩,
   ⟨(.some 7), (.mov (.t 1)), .none⟩,
   ⟨(.some 8), (.call0 47 [(.t 7)]), .none⟩,
   ⟨(.some 9), (.bin .eql (.t 6) (.t 8)), .none⟩,
   ⟨(.some 4), (.mov (.t 9)), .none⟩])
 .ret)
def c38 : PFun := ⟨
 (.seq (.region [⟨(.some 4), (.mov (.c (.d (.bool .false)))), .none⟩])
 c38_0),
 2, 10, [(.tmp 4)]⟩

/-- slices.EqualFunc[[]prompter/value.Value,[]prompter/value.Value,prompter/value.Value,prompter/value.Value] -/
abbrev c39_2 : PCode :=
 (.seq (.region [⟨(.some 6), (.mov (.c (.d (.bool .false)))), .none⟩])
 .ret)
abbrev c39_1 : PCode :=
 (.cond (.t 14)
  c39_2
  .skip)
abbrev c39_9 : PCode :=
 (.seq (.region [⟨(.some 6), (.mov (.c (.d (.bool .false)))), .none⟩])
 .ret)
abbrev c39_8 : PCode :=
 (.cond (.t 30)
  c39_9
  .skip)
abbrev c39_7 : PCode :=
 (.keep [1, 2, 8, 9, 15, 16, 17] (.seq (.region [⟨(.some 26), (.mov (.t 2)), .none⟩,
   ⟨(.some 27), (.load .true 4 (.t 8) .false), .none⟩,
   ⟨(.some 28), (.load .true 4 (.t 9) .false), .none⟩,
   ⟨(.some 29), (.callv0 (.t 26) [(.t 27), (.t 28)]), .none⟩,
   ⟨(.some 30), (.not (.t 29)), .none⟩])
 c39_8))
abbrev c39_6 : PCode :=
 (.keep [1, 2, 7, 8, 15, 16, 17] (.seq (.region [⟨(.some 22), (.mov (.t 1)), .none⟩,
   ⟨(.some 23), (.mov (.t 7)), .none⟩,
   ⟨(.some 24), (.iaddr 4 (.t 22) (.t 23)), .none⟩,
   ⟨(.some 25), (.load .true 4 (.t 24) .false), .none⟩,
   ⟨(.some 9), (.alloc [(.d (.int .i64 0)), (.d (.flt .f64 0)), (.d (.str (bs []))), (.full [])]), .none⟩,
   ⟨.none, (.store 4 (.t 9) (.t 25)), .none⟩])
 c39_7))
abbrev c39_5 : PCode :=
 (.block 1 (.seq (.region [⟨(.some 19), (.mov (.t 17)), .none⟩,
   ⟨(.some 20), (.iaddr 4 (.t 15) (.t 17)), .none⟩,
   ⟨(.some 21), (.load .true 4 (.t 20) .false), .none⟩,
   ⟨(.some 8), (.alloc [(.d (.int .i64 0)), (.d (.flt .f64 0)), (.d (.str (bs []))), (.full [])]), .none⟩,
   ⟨(.some 7), (.mov (.t 19)), .none⟩,
   ⟨.none, (.store 4 (.t 8) (.t 21)), .none⟩])
 c39_6))
abbrev c39_4 : PCode :=
 (.keep [1, 2, 15, 16, 17] (.block 0 (.loop (.some [17, 1, 2, 15, 16]) (.seq (.region [⟨(.some 18), (.bin .lss (.t 17) (.t 16)), .none⟩])
 (.seq (.cond (.t 18)
  .skip
  (.exit 0))
 (.seq c39_5
 (.region [⟨(.some 31), (.bin .add (.t 17) (.c (.d (.int .i64 1)))), .none⟩,
   ⟨(.some 17), (.mov (.t 31)), .none⟩])))))))
abbrev c39_10 : PCode :=
 (.seq (.region [⟨(.some 6), (.mov (.c (.d (.bool .true)))), .none⟩])
 .ret)
abbrev c39_3 : PCode :=
 (.keep [0, 1, 2] (.seq (.seq (.region [⟨(.some 15), (.mov (.t 0)), .none⟩,
   ⟨(.some 16), (.len (.t 15)), .none⟩,
   ⟨(.some 17), (.mov (.c (.d (.int .i64 0)))), .none⟩])
 c39_4)
 c39_10))
abbrev c39_0 : PCode :=
 (.seq (.seq (.region [⟨(.some 10), (.mov (.t 0)), .none⟩,
   ⟨(.some 11), (.len (.t 10)), .none⟩,
   ⟨(.some 12), (.mov (.t 1)), .none⟩,
   ⟨(.some 13), (.len (.t 12)), .none⟩,
   ⟨(.some 14), (.bin .neq (.t 11) (.t 13)), .none⟩])
 c39_1)
 c39_3)
def c39 : PFun := ⟨
 (.seq (.region [⟨(.some 6), (.mov (.c (.d (.bool .false)))), .none⟩])
 c39_0),
 3, 32, [(.tmp 6)]⟩

/-- prompter/value.Same -/
abbrev c17_0 : PCode :=
 (.keep [2, 3] (.seq (.region [⟨(.some 5), (.faddr 0 (.t 2)), .none⟩,
   ⟨(.some 6), (.load .false 1 (.t 5) .false), .none⟩,
   ⟨(.some 7), (.faddr 0 (.t 3)), .none⟩,
   ⟨(.some 8), (.load .false 1 (.t 7) .false), .none⟩,
   ⟨(.some 9), (.bin .eql (.t 6) (.t 8)), .none⟩,
   ⟨(.some 10), (.mov (.t 9)), .none⟩,
   ⟨(.some 11), (.faddr 1 (.t 2)), (.some (10, .true))⟩,
   ⟨(.some 12), (.load .false 1 (.t 11) .false), (.some (10, .true))⟩,
   ⟨(.some 13), (.faddr 1 (.t 3)), (.some (10, .true))⟩,
   ⟨(.some 14), (.load .false 1 (.t 13) .false), (.some (10, .true))⟩,
   ⟨(.some 15), (.call0 38 [(.t 12), (.t 14)]), (.some (10, .true))⟩,
   ⟨(.some 16), (.pick (.t 10) (.t 15) (.c (.d (.bool .false)))), .none⟩,
   ⟨(.some 17), (.mov (.t 16)), .none⟩,
   ⟨(.some 18), (.faddr 2 (.t 2)), (.some (17, .true))⟩,
   ⟨(.some 19), (.load .false 1 (.t 18) .false), (.some (17, .true))⟩,
   ⟨(.some 20), (.faddr 2 (.t 3)), (.some (17, .true))⟩,
   ⟨(.some 21), (.load .false 1 (.t 20) .false), (.some (17, .true))⟩,
   ⟨(.some 22), (.bin .eql (.t 19) (.t 21)), (.some (17, .true))⟩,
   ⟨(.some 23), (.pick (.t 17) (.t 22) (.c (.d (.bool .false)))), .none⟩,
   ⟨(.some 24), (.mov (.t 23)), .none⟩,
   ⟨(.some 25), (.faddr 3 (.t 2)), (.some (24, .true))⟩,
   ⟨(.some 26), (.load .false 1 (.t 25) .false), (.some (24, .true))⟩,
   ⟨(.some 27), (.faddr 3 (.t 3)), (.some (24, .true))⟩,
   ⟨(.some 28), (.load .false 1 (.t 27) .false), (.some (24, .true))⟩,
   ⟨(.some 29), (.call0 39 [(.t 26), (.t 28), (.c (.d (.fn 17 [] [])))]), (.some (24, .true))⟩,
   ⟨(.some 30), (.pick (.t 24) (.t 29) (.c (.d (.bool .false)))), .none⟩,
   ⟨(.some 4), (.mov (.t 30)), .none⟩])
 .ret))
def c17 : PFun := ⟨
 (.seq (.region [⟨(.some 2), (.box 4 (.t 0)), .none⟩,
   ⟨(.some 3), (.box 4 (.t 1)), .none⟩,
   ⟨(.some 4), (.mov (.c (.d (.bool .false)))), .none⟩])
 c17_0),
 2, 31, [(.tmp 4)]⟩

theorem e47 : entered Try.prog 47 = true := by kernel_rfl
theorem k47 : compFun Try.prog (fun _ => 0) 47 = some c47.er := by kernel_rfl
theorem e38 : entered Try.prog 38 = true := by kernel_rfl
theorem k38 : compFun Try.prog (fun _ => 0) 38 = some c38.er := by kernel_rfl
theorem e39 : entered Try.prog 39 = true := by kernel_rfl
theorem k39 : compFun Try.prog (fun _ => 0) 39 = some c39.er := by kernel_rfl
theorem e17 : entered Try.prog 17 = true := by kernel_rfl
theorem k17 : compFun Try.prog (fun _ => 0) 17 = some c17.er := by kernel_rfl


theorem C47 (b : Nat) : Pure (PCalls Try.prog GG) 47 [.d (.flt .f64 b)] (.d (.int .u64 (fbits b))) := by
  intro st; refine pcalls_of k47 e47 (of_decide_eq_true rfl) ?_; dsimp only [c47]; refine pstartL ?_; intro t hL; generalize hQ : pfin _ _ = Q
  refine gor hL ?_; (repeat (clear hL; intro t hL; refine gor hL ?_))
  refine pcond_b rfl (fun h => ?_) (fun h => ?_)
  · refine gor hL ?_; (repeat (clear hL; intro t hL; refine gor hL ?_))
    rw [← hQ]
    rw [fbits, if_pos h]
    exact pfin_pure rfl hL.le
  refine gor hL ?_; (repeat (clear hL; intro t hL; refine gor hL ?_))
  rw [← hQ]
  rw [fbits, if_neg (by rw [h]; decide)]
  exact pfin_pure rfl hL.le
theorem C38 (a b : Nat) : Pure (PCalls Try.prog GG) 38 [.d (.flt .f64 a), .d (.flt .f64 b)] (b2 (fbits a == fbits b)) := by
  intro st; refine pcalls_of k38 e38 (of_decide_eq_true rfl) ?_; dsimp only [c38]; refine pstartL ?_; intro t hL; generalize hQ : pfin _ _ = Q
  refine gor hL ?_; (repeat (clear hL; intro t hL; refine gor hL ?_))
  refine po_call rfl (C47 a) (fun _ _ h => False.elim h) ?_
  refine gor hL ?_; (repeat (clear hL; intro t hL; refine gor hL ?_))
  refine po_call rfl (C47 b) (fun _ _ h => False.elim h) ?_
  refine gor hL ?_; (repeat (clear hL; intro t hL; refine gor hL ?_))
  rw [← hQ]
  exact pfin_pure rfl hL.le
theorem C39 (g : FuncId) (e : VT → VT → Bool) (l k : List VT) (hl : l.length < 2 ^ 60) (hg : ∀ x ∈ l, ∀ y ∈ k, Pure (PCalls Try.prog GG) g [x.av, y.av] (b2 (e x y))) :
    Pure (PCalls Try.prog GG) 39 [.d (.sl (l.map VT.row)), .d (.sl (k.map VT.row)), .d (.fn g [] [])] (b2 (eqAll e l k)) := by
  intro st; refine pcalls_of k39 e39 (of_decide_eq_true rfl) ?_; dsimp only [c39]; refine pstartL ?_; intro t hL; generalize hQ : pfin _ _ = Q
  refine gor hL ?_; (repeat (clear hL; intro t hL; refine gor hL ?_))
  refine pcond_b rfl (fun h1 => ?_) (fun h1 => ?_)
  · have h1' : l.length ≠ k.length := by simp at h1; omega
    refine gor hL ?_; (repeat (clear hL; intro t hL; refine gor hL ?_))
    rw [← hQ]
    exact pfin_pure (by rw [eqAll_ne h1']; rfl) hL.le
  have h1' : l.length = k.length := by simp at h1; omega
  refine gor hL ?_; (repeat (clear hL; intro t hL; refine gor hL ?_))
  (apply prangeK hL (l.length) (by omega) (fun i => eqAll e l k = eqAll e (l.drop i) (k.drop i))); (· exact trimA); (· exact fun _ => rfl)
  · rfl
  · intro t hL hI
    rw [List.drop_length, h1', List.drop_length] at hI
    refine gor hL ?_; (repeat (clear hL; intro t hL; refine gor hL ?_))
    rw [← hQ]
    exact pfin_pure (by rw [hI]; rfl) hL.le
  · intro i hi t hL hI
    obtain ⟨x, hx, hxm⟩ := elem_at hi
    obtain ⟨y, hy, hym⟩ := elem_at (l := k) (k := i) (by omega)
    rw [eqAll_drop hx hy] at hI
    refine pblock ?_
    (refine gor hL ?_; (repeat (clear hL; intro t hL; refine gor hL ?_))); (with_reducible refine po_allocL hL rfl ?_); clear hL; intro p8 t hL
    refine gor hL ?_; (repeat (clear hL; intro t hL; refine gor hL ?_))
    (refine gor hL ?_; (repeat (clear hL; intro t hL; refine gor hL ?_))); (with_reducible refine po_allocL hL rfl ?_); clear hL; intro p9 t hL
    refine gor hL ?_; (repeat (clear hL; intro t hL; refine gor hL ?_))
    have hc := hg x hxm y hym
    rw [VT.av_eq, VT.av_eq] at hc
    refine po_callv rfl rfl (hc _) (fun _ _ h => False.elim h) ?_
    refine gor hL ?_; (repeat (clear hL; intro t hL; refine gor hL ?_))
    refine pcond_b rfl (fun h2 => ?_) (fun h2 => ?_)
    · have h2' : e x y = false := by simpa using h2
      refine gor hL ?_; (repeat (clear hL; intro t hL; refine gor hL ?_))
      rw [← hQ]
      exact pfin_pure (by rw [hI, h2']; rfl) hL.le
    have h2' : e x y = true := by simpa using h2
    refine gor hL ?_; (repeat (clear hL; intro t hL; refine gor hL ?_))
    refine ⟨hL.pk, ?_, tr2⟩
    rw [hI, h2']; rfl


theorem C17 (x : VT) : ∀ y : VT, x.fit → Pure (PCalls Try.prog GG) 17 [x.av, y.av] (b2 (VT.same x y)) := by
  induction x using VT.ind with
  | h n f s o ih =>
  intro y hf
  obtain ⟨_, _, _, hl, hfo⟩ := hf
  rw [VT.same_eq, VT.av_eq, VT.av_eq]
  simp only [VT.pj]
  have hE := C39 17 VT.same o y.of (by omega) (fun z hz w _ => ih z hz w (hfo z hz))
  intro st; refine pcalls_of k17 e17 (of_decide_eq_true rfl) ?_; dsimp only [c17]; refine pstartL ?_; intro t hL; generalize hQ : pfin _ _ = Q
  (refine gor hL ?_; (repeat (clear hL; intro t hL; refine gor hL ?_))); refine po_boxA hL ?_; clear hL; intro p2 t hL
  (refine gor hL ?_; (repeat (clear hL; intro t hL; refine gor hL ?_))); refine po_boxA hL ?_; clear hL; intro p3 t hL
  refine gor hL ?_; (repeat (clear hL; intro t hL; refine gor hL ?_))
  ((with_reducible apply po_g); (· exact gwt); (· (intro hw; refine does_call0 ?_ (C38 f y.f); exact gargs hw)))
  refine gor hL ?_; (repeat (clear hL; intro t hL; refine gor hL ?_))
  ((with_reducible apply po_g); (· exact gwt); (· (intro hw; refine does_call0 ?_ (hE); exact gargs hw)))
  refine gor hL ?_; (repeat (clear hL; intro t hL; refine gor hL ?_))
  rw [← hQ]
  exact pfin_pure rfl hL.le
end Go.Pv
namespace Go.Pv
open Go.Proofs
set_option maxRecDepth 100000
set_option maxHeartbeats 4000000

/-- prompter/prompterlaw08.Turned -/
abbrev c28_6 : PCode :=
 (.keep [12, 13] (.seq (.region [⟨(.some 54), (.load .true 4 (.t 13) .false), .none⟩,
   ⟨.none, (.store 4 (.t 12) (.t 54)), .none⟩])
 .ret))
abbrev c28_5 : PCode :=
 (.keep [1, 2, 3, 4, 5, 6, 12, 13, 14] (.seq (.region [⟨(.some 38), (.faddr 3 (.t 13)), .none⟩,
   ⟨(.some 39), (.load .false 1 (.t 38) .false), .none⟩,
   ⟨(.some 40), (.mov (.t 14)), .none⟩,
   ⟨(.some 41), (.faddr 3 (.t 6)), .none⟩,
   ⟨(.some 42), (.load .false 1 (.t 41) .false), .none⟩,
   ⟨(.some 43), (.mov (.t 14)), .none⟩,
   ⟨(.some 44), (.iaddr 4 (.t 42) (.t 43)), .none⟩,
   ⟨(.some 45), (.load .true 4 (.t 44) .false), .none⟩,
   ⟨(.some 46), (.mov (.t 1)), .none⟩,
   ⟨(.some 47), (.slc 1 (.t 46) (.some (.c (.d (.int .i64 1)))) .none), .none⟩,
   ⟨(.some 48), (.mov (.t 2)), .none⟩,
   ⟨(.some 49), (.mov (.t 3)), .none⟩,
   ⟨(.some 50), (.mov (.t 4)), .none⟩,
   ⟨(.some 51), (.mov (.t 5)), .none⟩,
   ⟨(.some 52), (.callp 28 [(.t 45), (.t 47), (.t 48), (.t 49), (.t 50), (.t 51)]), .none⟩,
   ⟨(.some 53), (.iaddr 4 (.t 39) (.t 40)), .none⟩,
   ⟨.none, (.store 4 (.t 53) (.t 52)), .none⟩])
 c28_6))
abbrev c28_4 : PCode :=
 (.keep [1, 2, 3, 4, 5, 6, 12, 13] (.seq (.region [⟨(.some 30), (.mov (.t 1)), .none⟩,
   ⟨(.some 31), (.iaddr 1 (.t 30) (.c (.d (.int .i64 0)))), .none⟩,
   ⟨(.some 32), (.load .false 1 (.t 31) .false), .none⟩,
   ⟨(.some 33), (.cvt .i64 (.t 32)), .none⟩,
   ⟨(.some 34), (.faddr 3 (.t 6)), .none⟩,
   ⟨(.some 35), (.load .false 1 (.t 34) .false), .none⟩,
   ⟨(.some 36), (.len (.t 35)), .none⟩,
   ⟨(.some 37), (.bin .rem (.t 33) (.t 36)), .none⟩,
   ⟨(.some 14), (.mov (.t 37)), .none⟩])
 c28_5))
abbrev c28_3 : PCode :=
 (.keep [1, 2, 3, 4, 5, 6, 12, 13] (.seq (.region [⟨(.some 25), (.bsl 4 []), .none⟩,
   ⟨(.some 26), (.faddr 3 (.t 6)), .none⟩,
   ⟨(.some 27), (.load .false 1 (.t 26) .false), .none⟩,
   ⟨(.some 28), (.appB 4 56 (.t 25) (.t 27)), .none⟩,
   ⟨(.some 29), (.faddr 3 (.t 13)), .none⟩,
   ⟨.none, (.store 1 (.t 29) (.t 28)), .none⟩])
 c28_4))
abbrev c28_2 : PCode :=
 (.seq (.region [⟨(.some 24), (.load .true 4 (.t 6) .false), .none⟩,
   ⟨(.some 13), (.alloc [(.d (.int .i64 0)), (.d (.flt .f64 0)), (.d (.str (bs []))), (.full [])]), .none⟩,
   ⟨.none, (.store 4 (.t 13) (.t 24)), .none⟩])
 c28_3)
abbrev c28_1 : PCode :=
 (.cond (.t 23)
  c28_2
  .skip)
abbrev c28_10 : PCode :=
 (.region [⟨(.some 67), (.mov (.t 3)), .none⟩,
   ⟨(.some 68), (.faddr 0 (.t 6)), .none⟩,
   ⟨.none, (.store 1 (.t 68) (.t 67)), .none⟩])
abbrev c28_13 : PCode :=
 (.region [⟨(.some 71), (.mov (.t 4)), .none⟩,
   ⟨(.some 72), (.faddr 1 (.t 6)), .none⟩,
   ⟨.none, (.store 1 (.t 72) (.t 71)), .none⟩])
abbrev c28_16 : PCode :=
 (.region [⟨(.some 75), (.mov (.t 5)), .none⟩,
   ⟨(.some 76), (.faddr 2 (.t 6)), .none⟩,
   ⟨.none, (.store 1 (.t 76) (.t 75)), .none⟩])
abbrev c28_19 : PCode :=
 (.region [⟨(.some 79), (.bsl 4 []), .none⟩,
   ⟨(.some 80), (.faddr 3 (.t 6)), .none⟩,
   ⟨(.some 81), (.load .false 1 (.t 80) .false), .none⟩,
   ⟨(.some 82), (.app 4 56 (.t 79) (.t 81)), .none⟩,
   ⟨(.some 83), (.mov (.t 3)), .none⟩,
   ⟨(.some 84), (.bld [(.d (.int .i64 0)), (.d (.flt .f64 0)), (.d (.str (bs []))), (.full [])] [(0, (1, (.t 83)))]), .none⟩,
   ⟨(.some 85), (.bsl 4 [(.t 84)]), .none⟩,
   ⟨(.some 86), (.app 4 56 (.t 82) (.t 85)), .none⟩,
   ⟨(.some 87), (.faddr 3 (.t 6)), .none⟩,
   ⟨.none, (.store 1 (.t 87) (.t 86)), .none⟩])
abbrev c28_20 : PCode :=
 (.region [⟨(.some 57), (.faddr 3 (.t 6)), .none⟩,
   ⟨(.some 58), (.load .false 1 (.t 57) .false), .none⟩,
   ⟨(.some 59), (.faddr 3 (.t 6)), .none⟩,
   ⟨(.some 60), (.load .false 1 (.t 59) .false), .none⟩,
   ⟨(.some 61), (.len (.t 60)), .none⟩,
   ⟨(.some 62), (.bin .quo (.t 61) (.c (.d (.int .i64 2)))), .none⟩,
   ⟨(.some 63), (.slc 4 (.t 58) .none (.some (.t 62))), .none⟩,
   ⟨(.some 64), (.faddr 3 (.t 6)), .none⟩,
   ⟨.none, (.store 1 (.t 64) (.t 63)), .none⟩])
abbrev c28_18 : PCode :=
 (.cond (.t 77)
  c28_19
  c28_20)
abbrev c28_17 : PCode :=
 (.seq (.region [⟨(.some 78), (.bin .eql (.t 56) (.c (.d (.int .u8 3)))), .none⟩,
   ⟨(.some 77), (.mov (.t 78)), .none⟩])
 c28_18)
abbrev c28_15 : PCode :=
 (.cond (.t 73)
  c28_16
  c28_17)
abbrev c28_14 : PCode :=
 (.seq (.region [⟨(.some 74), (.bin .eql (.t 56) (.c (.d (.int .u8 2)))), .none⟩,
   ⟨(.some 73), (.mov (.t 74)), .none⟩])
 c28_15)
abbrev c28_12 : PCode :=
 (.cond (.t 69)
  c28_13
  c28_14)
abbrev c28_11 : PCode :=
 (.seq (.region [⟨(.some 70), (.bin .eql (.t 56) (.c (.d (.int .u8 1)))), .none⟩,
   ⟨(.some 69), (.mov (.t 70)), .none⟩])
 c28_12)
abbrev c28_9 : PCode :=
 (.cond (.t 65)
  c28_10
  c28_11)
abbrev c28_8 : PCode :=
 (.block 0 (.seq (.region [⟨(.some 66), (.bin .eql (.t 56) (.c (.d (.int .u8 0)))), .none⟩,
   ⟨(.some 65), (.mov (.t 66)), .none⟩])
 c28_9))
abbrev c28_21 : PCode :=
 (.keep [6, 12] (.seq (.region [⟨(.some 88), (.load .true 4 (.t 6) .false), .none⟩,
   ⟨.none, (.store 4 (.t 12) (.t 88)), .none⟩])
 .ret))
abbrev c28_7 : PCode :=
 (.seq (.seq (.region [⟨(.some 55), (.mov (.t 2)), .none⟩,
   ⟨(.some 56), (.bin .rem (.t 55) (.c (.d (.int .u8 5)))), .none⟩])
 c28_8)
 c28_21)
abbrev c28_0 : PCode :=
 (.seq (.seq (.region [⟨(.some 15), (.mov (.t 1)), .none⟩,
   ⟨(.some 16), (.len (.t 15)), .none⟩,
   ⟨(.some 17), (.bin .gtr (.t 16) (.c (.d (.int .i64 0)))), .none⟩,
   ⟨(.some 18), (.mov (.t 17)), .none⟩,
   ⟨(.some 19), (.faddr 3 (.t 6)), (.some (18, .true))⟩,
   ⟨(.some 20), (.load .false 1 (.t 19) .false), (.some (18, .true))⟩,
   ⟨(.some 21), (.len (.t 20)), (.some (18, .true))⟩,
   ⟨(.some 22), (.bin .gtr (.t 21) (.c (.d (.int .i64 0)))), (.some (18, .true))⟩,
   ⟨(.some 23), (.pick (.t 18) (.t 22) (.c (.d (.bool .false)))), .none⟩])
 c28_1)
 c28_7)
def c28 : PFun := ⟨
 (.seq (.region [⟨(.some 6), (.box 4 (.t 0)), .none⟩,
   ⟨(.some 12), (.alloc [(.d (.int .i64 0)), (.d (.flt .f64 0)), (.d (.str (bs []))), (.full [])]), .none⟩])
 c28_0),
 6, 89, [(.cell 12 .true 4)]⟩

theorem e28 : entered Try.prog 28 = true := by kernel_rfl
theorem k28 : compFun Try.prog (fun i => if i = 3 then 8 else if i = 5 then 1 else 0) 28 = some c28.er := by kernel_rfl


abbrev u8s (l : List Int) : Dat := .sl (l.map fun n => [.int .u8 n])
theorem turnedLeaf (what n : Int) (f : Nat) (s : ByteArray) (hw : 0 ≤ what ∧ what ≤ 255) (l : List Int) (v : VT) (hv : v.fit) (hc : ¬ (l.length ≠ 0 ∧ v.of.length ≠ 0)) :
    Pure (PCalls Try.prog GG) 28 [v.av, .d (u8s l), .d (.int .u8 what), .d (.int .i64 n), .d (.flt .f64 f), .d (.str s)] (VT.leaf v what n f s).av := by
  have hw5 : what.tmod 5 = what % 5 := IntWalk.rem_in _ _ (by omega)
  have hl := hv.len
  have hr : ∀ r ∈ v.of.map VT.row, r.length = 4 := fun r hr => by obtain ⟨x, _, rfl⟩ := List.mem_map.1 hr; exact VT.row_len x
  rw [VT.av_eq, VT.av_eq]
  intro st; refine pcalls_of k28 e28 (of_decide_eq_true rfl) ?_; dsimp only [c28]; refine pstartL ?_; intro t hL; generalize hQ : pfin _ _ = Q
  (refine gor hL ?_; (repeat (clear hL; intro t hL; refine gor hL ?_))); refine po_boxA hL ?_; clear hL; intro p6 t hL
  (refine gor hL ?_; (repeat (clear hL; intro t hL; refine gor hL ?_))); (with_reducible refine po_allocL hL rfl ?_); clear hL; intro p12 t hL
  refine gor hL ?_; (repeat (clear hL; intro t hL; refine gor hL ?_))
  refine pcond_b rfl (fun h => ?_) (fun h => ?_)
  · exfalso
    simp at h
    omega
  refine gor hL ?_; (repeat (clear hL; intro t hL; refine gor hL ?_))
  refine pjoin (fun s' u => ∃ w, s' = put (put (fun _ => .undef) (some 12) (ptrAt p12)) (some 6) (ptrAt p6) ∧ VF w ((VT.leaf v what n f s).of.map VT.row) ∧ Lay st [.box p6 [.d (.int .i64 (VT.leaf v what n f s).n), .d (.flt .f64 (VT.leaf v what n f s).f), .d (.str (VT.leaf v what n f s).s), w], .box p12 [.d (.int .i64 0), .d (.flt .f64 0), .d (.str (bs [])), .full []]] u) ?_ ?_
  · refine gor hL ?_; (repeat (clear hL; intro t hL; refine gor hL ?_))
    refine gnm ?_; rw [hw5]
    refine gor hL ?_; (repeat (clear hL; intro t hL; refine gor hL ?_))
    refine pcond_b rfl (fun h0 => ?_) (fun h0 => ?_)
    · have h0' : what % 5 = 0 := by simpa using h0
      refine gor hL ?_; (repeat (clear hL; intro t hL; refine gor hL ?_))
      rw [VT.leaf, if_pos h0']
      exact ⟨_, tr2, VF.sl _, hL.pk⟩
    have h0' : what % 5 ≠ 0 := by simpa using h0
    refine gor hL ?_; (repeat (clear hL; intro t hL; refine gor hL ?_))
    refine pcond_b rfl (fun h1 => ?_) (fun h1 => ?_)
    · have h1' : what % 5 = 1 := by simpa using h1
      refine gor hL ?_; (repeat (clear hL; intro t hL; refine gor hL ?_))
      rw [VT.leaf, if_neg h0', if_pos h1']
      exact ⟨_, tr2, VF.sl _, hL.pk⟩
    have h1' : what % 5 ≠ 1 := by simpa using h1
    refine gor hL ?_; (repeat (clear hL; intro t hL; refine gor hL ?_))
    refine pcond_b rfl (fun h2 => ?_) (fun h2 => ?_)
    · have h2' : what % 5 = 2 := by simpa using h2
      refine gor hL ?_; (repeat (clear hL; intro t hL; refine gor hL ?_))
      rw [VT.leaf, if_neg h0', if_neg h1', if_pos h2']
      exact ⟨_, tr2, VF.sl _, hL.pk⟩
    have h2' : what % 5 ≠ 2 := by simpa using h2
    refine gor hL ?_; (repeat (clear hL; intro t hL; refine gor hL ?_))
    refine pcond_b rfl (fun h3 => ?_) (fun h3 => ?_)
    · have h3' : what % 5 = 3 := by simpa using h3
      refine gor hL ?_; (repeat (clear hL; intro t hL; refine gor hL ?_))
      replace hL := hL.full [] 4
      refine po_appA (rows := []) (hn := hr) hL (fun r h => (by cases h)) ?_ ?_
      · simp; omega
      clear hL; intro v1 t f1 hL
      obtain ⟨f1_r, f1_w, f1_w1, f1_c, f1_s, f1_d⟩ := id f1
      rw [List.nil_append] at hL f1_r f1_w f1_w1 f1_d
      refine gor hL ?_; (repeat (clear hL; intro t hL; refine gor hL ?_))
      refine po_appA hL hr ?_ ?_; (· simp; omega); clear hL; intro v2 t f2 hL; obtain ⟨f2_r, f2_w, f2_w1, f2_c, f2_s, f2_d⟩ := id f2
      refine gor hL ?_; (repeat (clear hL; intro t hL; refine gor hL ?_))
      rw [VT.leaf, if_neg h0', if_neg h1', if_neg h2', if_pos h3']
      refine ⟨v2, tr2, ?_, hL.pk⟩
      rw [show VT.of (.mk v.n v.f v.s (v.of ++ [VT.num n])) = v.of ++ [VT.num n] from rfl, List.map_append]
      exact f2
    have h3' : what % 5 ≠ 3 := by simpa using h3
    refine gor hL ?_; (repeat (clear hL; intro t hL; refine gor hL ?_))
    have e1 : IntKind.i64.wrap ((v.of.length : Int).tdiv 2) = ((v.of.length / 2 : Nat) : Int) := by
      rw [Int.tdiv_eq_ediv_of_nonneg (by omega), IntWalk.i64_in _ (by omega)]; omega
    refine gor hL ?_; (repeat (clear hL; intro t hL; refine gor hL ?_))
    refine gnm ?_; rw [e1]
    refine po rfl (slc_rows rfl rfl (by rw [List.length_map]; omega)) ?_
    refine gor hL ?_; (repeat (clear hL; intro t hL; refine gor hL ?_))
    rw [VT.leaf, if_neg h0', if_neg h1', if_neg h2', if_neg h3']
    refine ⟨_, tr2, ?_, hL.pk⟩
    rw [← List.map_take]
    exact VF.sl _
  rintro s' u ⟨w, rfl, fw, hL⟩
  obtain ⟨fw_r, fw_w, fw_w1, fw_c, fw_s, fw_d⟩ := id fw
  refine gor hL ?_; (repeat (clear hL; intro t hL; refine gor hL ?_))
  rw [← hQ]
  refine pwk1 hL ?_
  rw [AV.weak]
  simp only [pvwk, fw_w1]

theorem C28 (what n : Int) (f : Nat) (s : ByteArray) (hw : 0 ≤ what ∧ what ≤ 255) : ∀ (path : List Int) (v : VT), v.fit → path.length < 2 ^ 40 → (∀ p ∈ path, 0 ≤ p ∧ p ≤ 255) →
    Pure (PCalls Try.prog GG) 28 [v.av, .d (u8s path), .d (.int .u8 what), .d (.int .i64 n), .d (.flt .f64 f), .d (.str s)] (VT.turned what n f s path v).av := by
  intro path
  induction path with
  | nil =>
    intro v hv _ _
    exact turnedLeaf what n f s hw [] v hv (by simp)
  | cons p ps ih =>
    intro v hv hp hpr
    by_cases h0 : v.of.length = 0
    · rw [VT.turned, if_pos h0]
      exact turnedLeaf what n f s hw (p :: ps) v hv (by simp [h0])
    have hl := hv.len
    have hp0 := hpr p List.mem_cons_self
    obtain ⟨k, rfl⟩ : ∃ k : Nat, p = k := ⟨p.toNat, by omega⟩
    have hj : k % v.of.length < v.of.length := Nat.mod_lt _ (by omega)
    obtain ⟨y, hy, hm⟩ := elem_at hj
    have hT : VT.turned what n f s (k :: ps) v = .mk v.n v.f v.s (v.of.set (k % v.of.length) (VT.turned what n f s ps y)) := by
      rw [VT.turned, if_neg h0, List.getD_eq_getElem?_getD, Int.toNat_natCast, hy]; rfl
    have hi := ih y (hv.part hm) (by simp at hp; omega) (fun q hq => hpr q (List.mem_cons_of_mem _ hq))
    rw [hT]
    have hr : ∀ r ∈ v.of.map VT.row, r.length = 4 := fun r hr => by obtain ⟨x, _, rfl⟩ := List.mem_map.1 hr; exact VT.row_len x
    have hr1 : ∀ r ∈ ((k : Int) :: ps).map (fun n => [Dat.int .u8 n]), r.length = 1 := fun r hr => by obtain ⟨x, _, rfl⟩ := List.mem_map.1 hr; rfl
    rw [VT.av_eq, VT.av_eq]
    clear ih hT
    generalize VT.turned what n f s ps y = y' at *
    have hyr : y'.row.length = 4 := VT.row_len y'
    have hr2 : ∀ r ∈ ((v.of.set (k % v.of.length) y').map VT.row), r.length = 4 := fun r hr => by obtain ⟨x, _, rfl⟩ := List.mem_map.1 hr; exact VT.row_len x
    have hsl : ((v.of.map VT.row).length : Int) = v.of.length := by rw [List.length_map]
    intro st; refine pcalls_of k28 e28 (of_decide_eq_true rfl) ?_; dsimp only [c28]; refine pstartL ?_; intro t hL; generalize hQ : pfin _ _ = Q
    (refine gor hL ?_; (repeat (clear hL; intro t hL; refine gor hL ?_))); refine po_boxA hL ?_; clear hL; intro p6 t hL
    (refine gor hL ?_; (repeat (clear hL; intro t hL; refine gor hL ?_))); (with_reducible refine po_allocL hL rfl ?_); clear hL; intro p12 t hL
    refine gor hL ?_; (repeat (clear hL; intro t hL; refine gor hL ?_))
    refine pcond_b rfl (fun h => ?_) (fun h => ?_)
    · refine gor hL ?_; (repeat (clear hL; intro t hL; refine gor hL ?_))
      (refine gor hL ?_; (repeat (clear hL; intro t hL; refine gor hL ?_))); (with_reducible refine po_allocL hL rfl ?_); clear hL; intro p13 t hL
      refine gor hL ?_; (repeat (clear hL; intro t hL; refine gor hL ?_))
      refine pjoinO (fun s' u => ∃ b cap, (v.of.map VT.row).length ≤ cap ∧ s' = put (put (put (put (put (put (put (put (fun _ => .undef) (some 13) (ptrAt p13)) (some 12) (ptrAt p12)) (some 6) (ptrAt p6)) (some 5) (.d (.str s))) (some 4) (.d (.flt .f64 f))) (some 3) (.d (.int .i64 n))) (some 2) (.d (.int .u8 what))) (some 1) (.d (u8s (k :: ps))) ∧
        Lay st [.box b ((v.of.map VT.row).flatten.map .d ++ List.replicate ((cap - (v.of.map VT.row).length) * 4) .undef), .box p13 [.d (.int .i64 v.n), .d (.flt .f64 v.f), .d (.str v.s), .bsl b 0 (v.of.map VT.row).length cap], .box p12 [.d (.int .i64 0), .d (.flt .f64 0), .d (.str (bs [])), .full []], .box p6 [.d (.int .i64 v.n), .d (.flt .f64 v.f), .d (.str v.s), .d (.sl (v.of.map VT.row))]] u) ?_ ?_
      · refine gor hL ?_; (repeat (clear hL; intro t hL; refine gor hL ?_))
        refine po_appBL hL rfl rfl rfl hr (by rw [List.length_map]; omega) (fun h0' hL => ?_) (fun b cap t hne0 hcap hL => ?_)
        · exact absurd (by rw [← List.length_map (f := VT.row), h0']; rfl) h0
        · refine gor hL ?_; (repeat (clear hL; intro t hL; refine gor hL ?_))
          exact ⟨_, _, .refl _ _, b, cap, hcap, tr2, hL.pk⟩
      rintro s' t ⟨b, cap, hcap, rfl, hL⟩
      refine gor hL ?_; (repeat (clear hL; intro t hL; refine gor hL ?_))
      refine po_iaddrM (l := (k : Int) :: ps) (k := 0) rfl rfl rfl rfl rfl ?_
      refine gor hL ?_; (repeat (clear hL; intro t hL; refine gor hL ?_))
      refine gnm ?_; rw [IntWalk.i64_in (k : Int) (by omega)]
      refine po_remN rfl rfl h0 ?_
      refine gor hL ?_; (repeat (clear hL; intro t hL; refine gor hL ?_))
      refine pjoinO (fun s' u => s' = put (put (fun _ => .undef) (some 13) (ptrAt p13)) (some 12) (ptrAt p12) ∧
        Lay st [.box p13 [.d (.int .i64 v.n), .d (.flt .f64 v.f), .d (.str v.s), .d (.sl ((v.of.set (k % v.of.length) y').map VT.row))], .box p12 [.d (.int .i64 0), .d (.flt .f64 0), .d (.str (bs [])), .full []]] u) ?_ ?_
      · refine gor hL ?_; (repeat (clear hL; intro t hL; refine gor hL ?_))
        refine po rfl (slc_from (j := 1) rfl rfl (by simp) hr1) ?_
        refine gor hL ?_; (repeat (clear hL; intro t hL; refine gor hL ?_))
        rw [VT.av_eq] at hi
        refine po_cp (hi) ?_
        refine gor hL ?_; (repeat (clear hL; intro t hL; refine gor hL ?_))
        refine po rfl (iaddr_bslZ (k := k % v.of.length) rfl rfl (by rw [List.length_map]; exact hj)) ?_
        have hcl : ((v.of.map VT.row).flatten.map AV.d ++ List.replicate ((cap - (v.of.map VT.row).length) * 4) AV.undef).length = cap * 4 := cells_len hr hcap
        have hk4 : k % v.of.length * 4 + 4 ≤ cap * 4 := by rw [List.length_map] at hcap; omega
        refine po_storeL (cs := y'.row.map AV.d) hL rfl rfl (by repeat (first | exact Rem.head | apply Rem.tail)) rfl ⟨by rw [List.length_map]; exact hyr, sc_all _⟩ (by rw [hcl]; exact hk4) (set_cells hr (by rw [List.length_map]; exact hj) _ _) (fun _ _ _ h => False.elim h) ?_
        clear hL; intro t hL
        rw [map_set] at hL
        generalize hR : (v.of.set (k % v.of.length) y').map VT.row = R at *
        have hRl : R.length = (v.of.map VT.row).length := by rw [← hR]; simp
        rw [← hRl] at hL
        have ec : (AV.bsl b 0 R.length cap).cells = [.bsl b 0 R.length cap] := rfl
        have e1 : AV.frz1 b R (.bsl b 0 R.length cap) = .d (.sl R) := if_pos ⟨rfl, rfl, rfl⟩
        obtain ⟨t2, hz, hL⟩ := hL.frz hr2 (cells_weak _ _)
        simp only [List.map_cons, List.map_nil, Item.frz, e1, pvf] at hL
        refine gor hL ?_; (repeat (clear hL; intro t hL; refine gor hL ?_))
        refine ⟨_, t2, hz _, ?_, hL.pk⟩
        refine Eq.trans (congrArg (a₂ := put (put (fun _ => .undef) (some 13) (ptrAt p13)) (some 12) (ptrAt p12)) (fun (f : Slots) => fun i => AV.frz b R (f i)) tr2) ?_
        simp only [frz_put, frz_undef]
        rfl
      rintro s' t ⟨rfl, hL⟩
      refine gor hL ?_; (repeat (clear hL; intro t hL; refine gor hL ?_))
      rw [← hQ]
      refine pwk1 hL ?_
      rfl
    · rw [decide_eq_true (by simp), decide_eq_true (by omega)] at h
      cases h
end Go.Pv
namespace Go.Pv
open Go.Proofs
set_option maxRecDepth 100000
set_option maxHeartbeats 4000000

/-- prompter/value.check -/
abbrev c45_2 : PCode :=
 (.seq (.region [⟨(.some 6), (.mov (.c (.d (.bool .false)))), .none⟩])
 .ret)
abbrev c45_1 : PCode :=
 (.cond (.t 10)
  c45_2
  .skip)
abbrev c45_6 : PCode :=
 (.seq (.region [⟨(.some 15), (.load .true 4 (.t 4) .false), .none⟩,
   ⟨(.some 16), (.call0 48 [(.t 15)]), .none⟩,
   ⟨(.some 17), (.mov (.t 16)), .none⟩,
   ⟨(.some 18), (.faddr 0 (.t 4)), (.some (17, .true))⟩,
   ⟨(.some 19), (.load .false 1 (.t 18) .false), (.some (17, .true))⟩,
   ⟨(.some 20), (.bin .geq (.t 19) (.c (.d (.int .i64 0)))), (.some (17, .true))⟩,
   ⟨(.some 21), (.pick (.t 17) (.t 20) (.c (.d (.bool .false)))), .none⟩,
   ⟨(.some 22), (.mov (.t 21)), .none⟩,
   ⟨(.some 23), (.faddr 0 (.t 4)), (.some (22, .true))⟩,
   ⟨(.some 24), (.load .false 1 (.t 23) .false), (.some (22, .true))⟩,
   ⟨(.some 25), (.bin .leq (.t 24) (.c (.d (.int .i64 1)))), (.some (22, .true))⟩,
   ⟨(.some 26), (.pick (.t 22) (.t 25) (.c (.d (.bool .false)))), .none⟩,
   ⟨(.some 6), (.mov (.t 26)), .none⟩])
 .ret)
abbrev c45_9 : PCode :=
 (.seq (.region [⟨(.some 29), (.load .true 4 (.t 4) .false), .none⟩,
   ⟨(.some 30), (.call0 48 [(.t 29)]), .none⟩,
   ⟨(.some 31), (.mov (.t 30)), .none⟩,
   ⟨(.some 32), (.faddr 0 (.t 4)), (.some (31, .true))⟩,
   ⟨(.some 33), (.load .false 1 (.t 32) .false), (.some (31, .true))⟩,
   ⟨(.some 34), (.bin .geq (.t 33) (.c (.d (.int .i64 0)))), (.some (31, .true))⟩,
   ⟨(.some 35), (.pick (.t 31) (.t 34) (.c (.d (.bool .false)))), .none⟩,
   ⟨(.some 36), (.mov (.t 35)), .none⟩,
   ⟨(.some 37), (.faddr 0 (.t 4)), (.some (36, .true))⟩,
   ⟨(.some 38), (.load .false 1 (.t 37) .false), (.some (36, .true))⟩,
   ⟨(.some 39), (.bin .leq (.t 38) (.c (.d (.int .i64 65535)))), (.some (36, .true))⟩,
   ⟨(.some 40), (.pick (.t 36) (.t 39) (.c (.d (.bool .false)))), .none⟩,
   ⟨(.some 6), (.mov (.t 40)), .none⟩])
 .ret)
abbrev c45_12 : PCode :=
 (.seq (.region [⟨(.some 43), (.load .true 4 (.t 4) .false), .none⟩,
   ⟨(.some 44), (.call0 48 [(.t 43)]), .none⟩,
   ⟨(.some 45), (.mov (.t 44)), .none⟩,
   ⟨(.some 46), (.faddr 0 (.t 4)), (.some (45, .true))⟩,
   ⟨(.some 47), (.load .false 1 (.t 46) .false), (.some (45, .true))⟩,
   ⟨(.some 48), (.bin .geq (.t 47) (.c (.d (.int .i64 (-2147483648))))), (.some (45, .true))⟩,
   ⟨(.some 49), (.pick (.t 45) (.t 48) (.c (.d (.bool .false)))), .none⟩,
   ⟨(.some 50), (.mov (.t 49)), .none⟩,
   ⟨(.some 51), (.faddr 0 (.t 4)), (.some (50, .true))⟩,
   ⟨(.some 52), (.load .false 1 (.t 51) .false), (.some (50, .true))⟩,
   ⟨(.some 53), (.bin .lss (.t 52) (.c (.d (.int .i64 2147483648)))), (.some (50, .true))⟩,
   ⟨(.some 54), (.pick (.t 50) (.t 53) (.c (.d (.bool .false)))), .none⟩,
   ⟨(.some 6), (.mov (.t 54)), .none⟩])
 .ret)
abbrev c45_15 : PCode :=
 (.seq (.region [⟨(.some 57), (.faddr 0 (.t 4)), .none⟩,
   ⟨(.some 58), (.load .false 1 (.t 57) .false), .none⟩,
   ⟨(.some 59), (.bin .eql (.t 58) (.c (.d (.int .i64 0)))), .none⟩,
   ⟨(.some 60), (.mov (.t 59)), .none⟩,
   ⟨(.some 61), (.faddr 2 (.t 4)), (.some (60, .true))⟩,
   ⟨(.some 62), (.load .false 1 (.t 61) .false), (.some (60, .true))⟩,
   ⟨(.some 63), (.bin .eql (.t 62) (.c (.d (.str (bs []))))), (.some (60, .true))⟩,
   ⟨(.some 64), (.pick (.t 60) (.t 63) (.c (.d (.bool .false)))), .none⟩,
   ⟨(.some 65), (.mov (.t 64)), .none⟩,
   ⟨(.some 66), (.faddr 3 (.t 4)), (.some (65, .true))⟩,
   ⟨(.some 67), (.load .false 1 (.t 66) .false), (.some (65, .true))⟩,
   ⟨(.some 68), (.len (.t 67)), (.some (65, .true))⟩,
   ⟨(.some 69), (.bin .eql (.t 68) (.c (.d (.int .i64 0)))), (.some (65, .true))⟩,
   ⟨(.some 70), (.pick (.t 65) (.t 69) (.c (.d (.bool .false)))), .none⟩,
   ⟨(.some 6), (.mov (.t 70)), .none⟩])
 .ret)
abbrev c45_18 : PCode :=
 (.seq (.region [⟨(.some 73), (.faddr 0 (.t 4)), .none⟩,
   ⟨(.some 74), (.load .false 1 (.t 73) .false), .none⟩,
   ⟨(.some 75), (.bin .eql (.t 74) (.c (.d (.int .i64 0)))), .none⟩,
   ⟨(.some 76), (.mov (.t 75)), .none⟩,
   ⟨(.some 77), (.faddr 1 (.t 4)), (.some (76, .true))⟩,
   ⟨(.some 78), (.load .false 1 (.t 77) .false), (.some (76, .true))⟩,
   ⟨(.some 79), (.call0 47 [(.t 78)]), (.some (76, .true))⟩,
   ⟨(.some 80), (.bin .eql (.t 79) (.c (.d (.int .u64 0)))), (.some (76, .true))⟩,
   ⟨(.some 81), (.pick (.t 76) (.t 80) (.c (.d (.bool .false)))), .none⟩,
   ⟨(.some 82), (.mov (.t 81)), .none⟩,
   ⟨(.some 83), (.faddr 3 (.t 4)), (.some (82, .true))⟩,
   ⟨(.some 84), (.load .false 1 (.t 83) .false), (.some (82, .true))⟩,
   ⟨(.some 85), (.len (.t 84)), (.some (82, .true))⟩,
   ⟨(.some 86), (.bin .eql (.t 85) (.c (.d (.int .i64 0)))), (.some (82, .true))⟩,
   ⟨(.some 87), (.pick (.t 82) (.t 86) (.c (.d (.bool .false)))), .none⟩,
   ⟨(.some 88), (.mov (.t 87)), .none⟩,
   ⟨(.some 89), (.faddr 2 (.t 4)), (.some (88, .true))⟩,
   ⟨(.some 90), (.load .false 1 (.t 89) .false), (.some (88, .true))⟩,
   ⟨(.some 91), (.lenS (.t 90)), (.some (88, .true))⟩,
   ⟨(.some 92), (.faddr 1 (.t 3)), (.some (88, .true))⟩,
   ⟨(.some 93), (.load .false 1 (.t 92) .false), (.some (88, .true))⟩,
   ⟨(.some 94), (.bin .leq (.t 91) (.t 93)), (.some (88, .true))⟩,
   ⟨(.some 95), (.pick (.t 88) (.t 94) (.c (.d (.bool .false)))), .none⟩,
   ⟨(.some 6), (.mov (.t 95)), .none⟩])
 .ret)
abbrev c45_21 : PCode :=
 (.seq (.region [⟨(.some 98), (.load .true 4 (.t 4) .false), .none⟩,
   ⟨(.some 99), (.call0 48 [(.t 98)]), .none⟩,
   ⟨(.some 100), (.mov (.t 99)), .none⟩,
   ⟨(.some 101), (.faddr 0 (.t 4)), (.some (100, .true))⟩,
   ⟨(.some 102), (.load .false 1 (.t 101) .false), (.some (100, .true))⟩,
   ⟨(.some 103), (.bin .geq (.t 102) (.c (.d (.int .i64 0)))), (.some (100, .true))⟩,
   ⟨(.some 104), (.pick (.t 100) (.t 103) (.c (.d (.bool .false)))), .none⟩,
   ⟨(.some 105), (.mov (.t 104)), .none⟩,
   ⟨(.some 106), (.faddr 0 (.t 4)), (.some (105, .true))⟩,
   ⟨(.some 107), (.load .false 1 (.t 106) .false), (.some (105, .true))⟩,
   ⟨(.some 108), (.faddr 2 (.t 3)), (.some (105, .true))⟩,
   ⟨(.some 109), (.load .false 1 (.t 108) .false), (.some (105, .true))⟩,
   ⟨(.some 110), (.len (.t 109)), (.some (105, .true))⟩,
   ⟨(.some 111), (.bin .lss (.t 107) (.t 110)), (.some (105, .true))⟩,
   ⟨(.some 112), (.pick (.t 105) (.t 111) (.c (.d (.bool .false)))), .none⟩,
   ⟨(.some 6), (.mov (.t 112)), .none⟩])
 .ret)
abbrev c45_20 : PCode :=
 (.cond (.t 96)
  c45_21
  .skip)
abbrev c45_19 : PCode :=
 (.seq (.region [⟨(.some 97), (.bin .eql (.t 12) (.c (.d (.int .u8 7)))), .none⟩,
   ⟨(.some 96), (.mov (.t 97)), .none⟩])
 c45_20)
abbrev c45_17 : PCode :=
 (.cond (.t 71)
  c45_18
  c45_19)
abbrev c45_16 : PCode :=
 (.seq (.region [⟨(.some 72), (.bin .eql (.t 12) (.c (.d (.int .u8 4)))), .none⟩,
   ⟨(.some 71), (.mov (.t 72)), .none⟩])
 c45_17)
abbrev c45_14 : PCode :=
 (.cond (.t 55)
  c45_15
  c45_16)
abbrev c45_13 : PCode :=
 (.seq (.region [⟨(.some 56), (.bin .eql (.t 12) (.c (.d (.int .u8 3)))), .none⟩,
   ⟨(.some 55), (.mov (.t 56)), .none⟩])
 c45_14)
abbrev c45_11 : PCode :=
 (.cond (.t 41)
  c45_12
  c45_13)
abbrev c45_10 : PCode :=
 (.seq (.region [⟨(.some 42), (.bin .eql (.t 12) (.c (.d (.int .u8 2)))), .none⟩,
   ⟨(.some 41), (.mov (.t 42)), .none⟩])
 c45_11)
abbrev c45_8 : PCode :=
 (.cond (.t 27)
  c45_9
  c45_10)
abbrev c45_7 : PCode :=
 (.seq (.region [⟨(.some 28), (.bin .eql (.t 12) (.c (.d (.int .u8 1)))), .none⟩,
   ⟨(.some 27), (.mov (.t 28)), .none⟩])
 c45_8)
abbrev c45_5 : PCode :=
 (.cond (.t 13)
  c45_6
  c45_7)
abbrev c45_4 : PCode :=
 (.block 0 (.seq (.region [⟨(.some 14), (.bin .eql (.t 12) (.c (.d (.int .u8 0)))), .none⟩,
   ⟨(.some 13), (.mov (.t 14)), .none⟩])
 c45_5))
abbrev c45_24 : PCode :=
 (.seq (.region [⟨(.some 6), (.mov (.c (.d (.bool .false)))), .none⟩])
 .ret)
abbrev c45_23 : PCode :=
 (.cond (.t 121)
  c45_24
  .skip)
abbrev c45_30 : PCode :=
 (.seq (.region [⟨(.some 6), (.mov (.c (.d (.bool .false)))), .none⟩])
 .ret)
abbrev c45_29 : PCode :=
 (.cond (.t 142)
  c45_30
  .skip)
abbrev c45_31 : PCode :=
 (.keep [3, 4, 5] (.seq (.region [⟨(.some 143), (.faddr 3 (.t 4)), .none⟩,
   ⟨(.some 144), (.load .false 1 (.t 143) .false), .none⟩,
   ⟨(.some 145), (.mkfn 50 [] [(.t 3), (.t 5)]), .none⟩,
   ⟨(.some 146), (.call0 49 [(.t 144), (.t 145)]), .none⟩,
   ⟨(.some 147), (.not (.t 146)), .none⟩,
   ⟨(.some 6), (.mov (.t 147)), .none⟩])
 .ret))
abbrev c45_28 : PCode :=
 (.seq (.seq (.region [⟨(.some 126), (.faddr 0 (.t 4)), .none⟩,
   ⟨(.some 127), (.load .false 1 (.t 126) .false), .none⟩,
   ⟨(.some 128), (.bin .neq (.t 127) (.c (.d (.int .i64 0)))), .none⟩,
   ⟨(.some 129), (.mov (.t 128)), .none⟩,
   ⟨(.some 130), (.faddr 3 (.t 4)), (.some (129, .false))⟩,
   ⟨(.some 131), (.load .false 1 (.t 130) .false), (.some (129, .false))⟩,
   ⟨(.some 132), (.len (.t 131)), (.some (129, .false))⟩,
   ⟨(.some 133), (.faddr 1 (.t 3)), (.some (129, .false))⟩,
   ⟨(.some 134), (.load .false 1 (.t 133) .false), (.some (129, .false))⟩,
   ⟨(.some 135), (.bin .gtr (.t 132) (.t 134)), (.some (129, .false))⟩,
   ⟨(.some 136), (.pick (.t 129) (.c (.d (.bool .true))) (.t 135)), .none⟩,
   ⟨(.some 137), (.mov (.t 136)), .none⟩,
   ⟨(.some 138), (.faddr 3 (.t 3)), (.some (137, .false))⟩,
   ⟨(.some 139), (.load .false 1 (.t 138) .false), (.some (137, .false))⟩,
   ⟨(.some 140), (.len (.t 139)), (.some (137, .false))⟩,
   ⟨(.some 141), (.bin .neq (.t 140) (.c (.d (.int .i64 1)))), (.some (137, .false))⟩,
   ⟨(.some 142), (.pick (.t 137) (.c (.d (.bool .true))) (.t 141)), .none⟩])
 c45_29)
 c45_31)
abbrev c45_36 : PCode :=
 (.seq (.region [⟨(.some 6), (.mov (.c (.d (.bool .false)))), .none⟩])
 .ret)
abbrev c45_35 : PCode :=
 (.cond (.t 161)
  c45_36
  .skip)
abbrev c45_42 : PCode :=
 (.seq (.region [⟨(.some 6), (.mov (.c (.d (.bool .false)))), .none⟩])
 .ret)
abbrev c45_41 : PCode :=
 (.cond (.t 179)
  c45_42
  .skip)
abbrev c45_40 : PCode :=
 (.keep [3, 5, 7, 8, 163, 164, 165] (.seq (.region [⟨(.some 170), (.faddr 3 (.t 3)), .none⟩,
   ⟨(.some 171), (.load .false 1 (.t 170) .false), .none⟩,
   ⟨(.some 172), (.mov (.t 7)), .none⟩,
   ⟨(.some 173), (.iaddr 4 (.t 171) (.t 172)), .none⟩,
   ⟨(.some 174), (.load .true 4 (.t 173) .false), .none⟩,
   ⟨(.some 175), (.load .true 4 (.t 8) .false), .none⟩,
   ⟨(.some 176), (.load .false 1 (.t 5) .false), .none⟩,
   ⟨(.some 177), (.bin .sub (.t 176) (.c (.d (.int .i64 1)))), .none⟩,
   ⟨(.some 178), (.call0 45 [(.t 174), (.t 175), (.t 177)]), .none⟩,
   ⟨(.some 179), (.not (.t 178)), .none⟩])
 c45_41))
abbrev c45_39 : PCode :=
 (.block 3 (.seq (.region [⟨(.some 167), (.mov (.t 165)), .none⟩,
   ⟨(.some 168), (.iaddr 4 (.t 163) (.t 165)), .none⟩,
   ⟨(.some 169), (.load .true 4 (.t 168) .false), .none⟩,
   ⟨(.some 8), (.alloc [(.d (.int .i64 0)), (.d (.flt .f64 0)), (.d (.str (bs []))), (.full [])]), .none⟩,
   ⟨(.some 7), (.mov (.t 167)), .none⟩,
   ⟨.none, (.store 4 (.t 8) (.t 169)), .none⟩])
 c45_40))
abbrev c45_38 : PCode :=
 (.keep [3, 5, 163, 164, 165] (.block 2 (.loop (.some [165, 3, 5, 163, 164]) (.seq (.region [⟨(.some 166), (.bin .lss (.t 165) (.t 164)), .none⟩])
 (.seq (.cond (.t 166)
  .skip
  (.exit 2))
 (.seq c45_39
 (.region [⟨(.some 180), (.bin .add (.t 165) (.c (.d (.int .i64 1)))), .none⟩,
   ⟨(.some 165), (.mov (.t 180)), .none⟩])))))))
abbrev c45_43 : PCode :=
 (.seq (.region [⟨(.some 6), (.mov (.c (.d (.bool .true)))), .none⟩])
 .ret)
abbrev c45_37 : PCode :=
 (.keep [3, 4, 5] (.seq (.seq (.region [⟨(.some 162), (.faddr 3 (.t 4)), .none⟩,
   ⟨(.some 163), (.load .false 1 (.t 162) .false), .none⟩,
   ⟨(.some 164), (.len (.t 163)), .none⟩,
   ⟨(.some 165), (.mov (.c (.d (.int .i64 0)))), .none⟩])
 c45_38)
 c45_43))
abbrev c45_34 : PCode :=
 (.seq (.seq (.region [⟨(.some 150), (.faddr 0 (.t 4)), .none⟩,
   ⟨(.some 151), (.load .false 1 (.t 150) .false), .none⟩,
   ⟨(.some 152), (.bin .neq (.t 151) (.c (.d (.int .i64 0)))), .none⟩,
   ⟨(.some 153), (.mov (.t 152)), .none⟩,
   ⟨(.some 154), (.faddr 3 (.t 4)), (.some (153, .false))⟩,
   ⟨(.some 155), (.load .false 1 (.t 154) .false), (.some (153, .false))⟩,
   ⟨(.some 156), (.len (.t 155)), (.some (153, .false))⟩,
   ⟨(.some 157), (.faddr 3 (.t 3)), (.some (153, .false))⟩,
   ⟨(.some 158), (.load .false 1 (.t 157) .false), (.some (153, .false))⟩,
   ⟨(.some 159), (.len (.t 158)), (.some (153, .false))⟩,
   ⟨(.some 160), (.bin .neq (.t 156) (.t 159)), (.some (153, .false))⟩,
   ⟨(.some 161), (.pick (.t 153) (.c (.d (.bool .true))) (.t 160)), .none⟩])
 c45_35)
 c45_37)
abbrev c45_46 : PCode :=
 (.seq (.region [⟨(.some 183), (.faddr 0 (.t 4)), .none⟩,
   ⟨(.some 184), (.load .false 1 (.t 183) .false), .none⟩,
   ⟨(.some 185), (.bin .geq (.t 184) (.c (.d (.int .i64 0)))), .none⟩,
   ⟨(.some 186), (.mov (.t 185)), .none⟩,
   ⟨(.some 187), (.faddr 0 (.t 4)), (.some (186, .true))⟩,
   ⟨(.some 188), (.load .false 1 (.t 187) .false), (.some (186, .true))⟩,
   ⟨(.some 189), (.faddr 3 (.t 3)), (.some (186, .true))⟩,
   ⟨(.some 190), (.load .false 1 (.t 189) .false), (.some (186, .true))⟩,
   ⟨(.some 191), (.len (.t 190)), (.some (186, .true))⟩,
   ⟨(.some 192), (.bin .lss (.t 188) (.t 191)), (.some (186, .true))⟩,
   ⟨(.some 193), (.pick (.t 186) (.t 192) (.c (.d (.bool .false)))), .none⟩,
   ⟨(.some 194), (.mov (.t 193)), .none⟩,
   ⟨(.some 195), (.faddr 3 (.t 4)), (.some (194, .true))⟩,
   ⟨(.some 196), (.load .false 1 (.t 195) .false), (.some (194, .true))⟩,
   ⟨(.some 197), (.len (.t 196)), (.some (194, .true))⟩,
   ⟨(.some 198), (.bin .eql (.t 197) (.c (.d (.int .i64 1)))), (.some (194, .true))⟩,
   ⟨(.some 199), (.pick (.t 194) (.t 198) (.c (.d (.bool .false)))), .none⟩,
   ⟨(.some 200), (.mov (.t 199)), .none⟩,
   ⟨(.some 201), (.faddr 3 (.t 3)), (.some (200, .true))⟩,
   ⟨(.some 202), (.load .false 1 (.t 201) .false), (.some (200, .true))⟩,
   ⟨(.some 203), (.faddr 0 (.t 4)), (.some (200, .true))⟩,
   ⟨(.some 204), (.load .false 1 (.t 203) .false), (.some (200, .true))⟩,
   ⟨(.some 205), (.iaddr 4 (.t 202) (.t 204)), (.some (200, .true))⟩,
   ⟨(.some 206), (.load .true 4 (.t 205) .false), (.some (200, .true))⟩,
   ⟨(.some 207), (.faddr 3 (.t 4)), (.some (200, .true))⟩,
   ⟨(.some 208), (.load .false 1 (.t 207) .false), (.some (200, .true))⟩,
   ⟨(.some 209), (.iaddr 4 (.t 208) (.c (.d (.int .i64 0)))), (.some (200, .true))⟩,
   ⟨(.some 210), (.load .true 4 (.t 209) .false), (.some (200, .true))⟩,
   ⟨(.some 211), (.load .false 1 (.t 5) .false), (.some (200, .true))⟩,
   ⟨(.some 212), (.bin .sub (.t 211) (.c (.d (.int .i64 1)))), (.some (200, .true))⟩,
   ⟨(.some 213), (.call0 45 [(.t 206), (.t 210), (.t 212)]), (.some (200, .true))⟩,
   ⟨(.some 214), (.pick (.t 200) (.t 213) (.c (.d (.bool .false)))), .none⟩,
   ⟨(.some 6), (.mov (.t 214)), .none⟩])
 .ret)
abbrev c45_45 : PCode :=
 (.cond (.t 181)
  c45_46
  .skip)
abbrev c45_44 : PCode :=
 (.seq (.region [⟨(.some 182), (.bin .eql (.t 123) (.c (.d (.int .u8 8)))), .none⟩,
   ⟨(.some 181), (.mov (.t 182)), .none⟩])
 c45_45)
abbrev c45_33 : PCode :=
 (.cond (.t 148)
  c45_34
  c45_44)
abbrev c45_32 : PCode :=
 (.seq (.region [⟨(.some 149), (.bin .eql (.t 123) (.c (.d (.int .u8 6)))), .none⟩,
   ⟨(.some 148), (.mov (.t 149)), .none⟩])
 c45_33)
abbrev c45_27 : PCode :=
 (.cond (.t 124)
  c45_28
  c45_32)
abbrev c45_26 : PCode :=
 (.block 1 (.seq (.region [⟨(.some 125), (.bin .eql (.t 123) (.c (.d (.int .u8 5)))), .none⟩,
   ⟨(.some 124), (.mov (.t 125)), .none⟩])
 c45_27))
abbrev c45_47 : PCode :=
 (.seq (.region [⟨(.some 6), (.mov (.c (.d (.bool .false)))), .none⟩])
 .ret)
abbrev c45_25 : PCode :=
 (.keep [3, 4, 5] (.seq (.seq (.region [⟨(.some 122), (.faddr 0 (.t 3)), .none⟩,
   ⟨(.some 123), (.load .false 1 (.t 122) .false), .none⟩])
 c45_26)
 c45_47))
abbrev c45_22 : PCode :=
 (.seq (.seq (.region [⟨(.some 113), (.faddr 1 (.t 4)), .none⟩,
   ⟨(.some 114), (.load .false 1 (.t 113) .false), .none⟩,
   ⟨(.some 115), (.call0 47 [(.t 114)]), .none⟩,
   ⟨(.some 116), (.bin .neq (.t 115) (.c (.d (.int .u64 0)))), .none⟩,
   ⟨(.some 117), (.mov (.t 116)), .none⟩,
   ⟨(.some 118), (.faddr 2 (.t 4)), (.some (117, .false))⟩,
   ⟨(.some 119), (.load .false 1 (.t 118) .false), (.some (117, .false))⟩,
   ⟨(.some 120), (.bin .neq (.t 119) (.c (.d (.str (bs []))))), (.some (117, .false))⟩,
   ⟨(.some 121), (.pick (.t 117) (.c (.d (.bool .true))) (.t 120)), .none⟩])
 c45_23)
 c45_25)
abbrev c45_3 : PCode :=
 (.keep [3, 4, 5] (.seq (.seq (.region [⟨(.some 11), (.faddr 0 (.t 3)), .none⟩,
   ⟨(.some 12), (.load .false 1 (.t 11) .false), .none⟩])
 c45_4)
 c45_22))
abbrev c45_0 : PCode :=
 (.keep [3, 4, 5] (.seq (.seq (.region [⟨(.some 9), (.load .false 1 (.t 5) .false), .none⟩,
   ⟨(.some 10), (.bin .lss (.t 9) (.c (.d (.int .i64 1)))), .none⟩])
 c45_1)
 c45_3))
def c45 : PFun := ⟨
 (.seq (.region [⟨(.some 3), (.box 4 (.t 0)), .none⟩,
   ⟨(.some 4), (.box 4 (.t 1)), .none⟩,
   ⟨(.some 5), (.box 1 (.t 2)), .none⟩,
   ⟨(.some 6), (.mov (.c (.d (.bool .false)))), .none⟩])
 c45_0),
 3, 215, [(.tmp 6)]⟩

/-- (prompter/value.Value).plain -/
abbrev c48_0 : PCode :=
 (.seq (.region [⟨(.some 3), (.faddr 1 (.t 1)), .none⟩,
   ⟨(.some 4), (.load .false 1 (.t 3) .false), .none⟩,
   ⟨(.some 5), (.call0 47 [(.t 4)]), .none⟩,
   ⟨(.some 6), (.bin .eql (.t 5) (.c (.d (.int .u64 0)))), .none⟩,
   ⟨(.some 7), (.mov (.t 6)), .none⟩,
   ⟨(.some 8), (.faddr 2 (.t 1)), (.some (7, .true))⟩,
   ⟨(.some 9), (.load .false 1 (.t 8) .false), (.some (7, .true))⟩,
   ⟨(.some 10), (.bin .eql (.t 9) (.c (.d (.str (bs []))))), (.some (7, .true))⟩,
   ⟨(.some 11), (.pick (.t 7) (.t 10) (.c (.d (.bool .false)))), .none⟩,
   ⟨(.some 12), (.mov (.t 11)), .none⟩,
   ⟨(.some 13), (.faddr 3 (.t 1)), (.some (12, .true))⟩,
   ⟨(.some 14), (.load .false 1 (.t 13) .false), (.some (12, .true))⟩,
   ⟨(.some 15), (.len (.t 14)), (.some (12, .true))⟩,
   ⟨(.some 16), (.bin .eql (.t 15) (.c (.d (.int .i64 0)))), (.some (12, .true))⟩,
   ⟨(.some 17), (.pick (.t 12) (.t 16) (.c (.d (.bool .false)))), .none⟩,
   ⟨(.some 2), (.mov (.t 17)), .none⟩])
 .ret)
def c48 : PFun := ⟨
 (.seq (.region [⟨(.some 1), (.box 4 (.t 0)), .none⟩,
   ⟨(.some 2), (.mov (.c (.d (.bool .false)))), .none⟩])
 c48_0),
 1, 18, [(.tmp 2)]⟩

/-- slices.ContainsFunc[[]prompter/value.Value,prompter/value.Value] -/
abbrev c49_0 : PCode :=
 (.seq (.region [⟨(.some 5), (.mov (.t 0)), .none⟩,
   ⟨(.some 6), (.mov (.t 1)), .none⟩,
   ⟨(.some 7), (.call0 54 [(.t 5), (.t 6)]), .none⟩,
   ⟨(.some 8), (.bin .geq (.t 7) (.c (.d (.int .i64 0)))), .none⟩,
   ⟨(.some 4), (.mov (.t 8)), .none⟩])
 .ret)
def c49 : PFun := ⟨
 (.seq (.region [⟨(.some 4), (.mov (.c (.d (.bool .false)))), .none⟩])
 c49_0),
 2, 9, [(.tmp 4)]⟩

/-- prompter/value.check$1 -/
abbrev c50_0 : PCode :=
 (.seq (.region [⟨(.some 5), (.faddr 3 (.t 1)), .none⟩,
   ⟨(.some 6), (.load .false 1 (.t 5) .false), .none⟩,
   ⟨(.some 7), (.iaddr 4 (.t 6) (.c (.d (.int .i64 0)))), .none⟩,
   ⟨(.some 8), (.load .true 4 (.t 7) .false), .none⟩,
   ⟨(.some 9), (.load .true 4 (.t 3) .false), .none⟩,
   ⟨(.some 10), (.load .false 1 (.t 2) .false), .none⟩,
   ⟨(.some 11), (.bin .sub (.t 10) (.c (.d (.int .i64 1)))), .none⟩,
   ⟨(.some 12), (.call0 45 [(.t 8), (.t 9), (.t 11)]), .none⟩,
   ⟨(.some 13), (.not (.t 12)), .none⟩,
   ⟨(.some 4), (.mov (.t 13)), .none⟩])
 .ret)
def c50 : PFun := ⟨
 (.seq (.region [⟨(.some 3), (.box 4 (.t 0)), .none⟩,
   ⟨(.some 4), (.mov (.c (.d (.bool .false)))), .none⟩])
 c50_0),
 3, 14, [(.tmp 4)]⟩

/-- slices.IndexFunc[[]prompter/value.Value,prompter/value.Value] -/
abbrev c54_5 : PCode :=
 (.seq (.region [⟨(.some 17), (.mov (.t 5)), .none⟩,
   ⟨(.some 4), (.mov (.t 17)), .none⟩])
 .ret)
abbrev c54_4 : PCode :=
 (.cond (.t 16)
  c54_5
  .skip)
abbrev c54_3 : PCode :=
 (.seq (.region [⟨(.some 11), (.mov (.t 1)), .none⟩,
   ⟨(.some 12), (.mov (.t 0)), .none⟩,
   ⟨(.some 13), (.mov (.t 5)), .none⟩,
   ⟨(.some 14), (.iaddr 4 (.t 12) (.t 13)), .none⟩,
   ⟨(.some 15), (.load .true 4 (.t 14) .false), .none⟩,
   ⟨(.some 16), (.callv0 (.t 11) [(.t 15)]), .none⟩])
 c54_4)
abbrev c54_2 : PCode :=
 (.block 1 (.seq (.region [⟨(.some 10), (.mov (.t 8)), .none⟩,
   ⟨(.some 5), (.mov (.t 10)), .none⟩])
 c54_3))
abbrev c54_1 : PCode :=
 (.keep [0, 1, 7, 8] (.block 0 (.loop (.some [8, 0, 1, 7]) (.seq (.region [⟨(.some 9), (.bin .lss (.t 8) (.t 7)), .none⟩])
 (.seq (.cond (.t 9)
  .skip
  (.exit 0))
 (.seq c54_2
 (.region [⟨(.some 18), (.bin .add (.t 8) (.c (.d (.int .i64 1)))), .none⟩,
   ⟨(.some 8), (.mov (.t 18)), .none⟩])))))))
abbrev c54_6 : PCode :=
 (.seq (.region [⟨(.some 4), (.mov (.c (.d (.int .i64 (-1))))), .none⟩])
 .ret)
abbrev c54_0 : PCode :=
 (.seq (.seq (.region [⟨(.some 6), (.mov (.t 0)), .none⟩,
   ⟨(.some 7), (.len (.t 6)), .none⟩,
   ⟨(.some 8), (.mov (.c (.d (.int .i64 0)))), .none⟩])
 c54_1)
 c54_6)
def c54 : PFun := ⟨
 (.seq (.region [⟨(.some 4), (.mov (.c (.d (.int .i64 0)))), .none⟩])
 c54_0),
 2, 19, [(.tmp 4)]⟩

/-- prompter/value.Check -/
abbrev c27_2 : PCode :=
 (.seq (.region [⟨(.some 4), (.mov (.c (.d (.int .i64 17)))), .none⟩])
 .ret)
abbrev c27_1 : PCode :=
 (.cond (.t 8)
  c27_2
  .skip)
abbrev c27_3 : PCode :=
 (.keep [] (.seq (.region [⟨(.some 4), (.mov (.c (.d (.int .i64 0)))), .none⟩])
 .ret))
abbrev c27_0 : PCode :=
 (.keep [2, 3] (.seq (.seq (.region [⟨(.some 5), (.load .true 4 (.t 2) .false), .none⟩,
   ⟨(.some 6), (.load .true 4 (.t 3) .false), .none⟩,
   ⟨(.some 7), (.call0 45 [(.t 5), (.t 6), (.c (.d (.int .i64 20)))]), .none⟩,
   ⟨(.some 8), (.not (.t 7)), .none⟩])
 c27_1)
 c27_3))
def c27 : PFun := ⟨
 (.seq (.region [⟨(.some 2), (.box 4 (.t 0)), .none⟩,
   ⟨(.some 3), (.box 4 (.t 1)), .none⟩,
   ⟨(.some 4), (.mov (.c (.d (.int .i64 0)))), .none⟩])
 c27_0),
 2, 9, [(.tmp 4)]⟩

theorem e45 : entered Try.prog 45 = true := by kernel_rfl
theorem k45 : compFun Try.prog (fun _ => 0) 45 = some c45.er := by kernel_rfl
theorem e48 : entered Try.prog 48 = true := by kernel_rfl
theorem k48 : compFun Try.prog (fun _ => 0) 48 = some c48.er := by kernel_rfl
theorem e49 : entered Try.prog 49 = true := by kernel_rfl
theorem k49 : compFun Try.prog (fun _ => 0) 49 = some c49.er := by kernel_rfl
theorem e50 : entered Try.prog 50 = true := by kernel_rfl
theorem k50 : compFun Try.prog (fun _ => 0) 50 = some c50.er := by kernel_rfl
theorem e54 : entered Try.prog 54 = true := by kernel_rfl
theorem k54 : compFun Try.prog (fun _ => 0) 54 = some c54.er := by kernel_rfl
theorem e27 : entered Try.prog 27 = true := by kernel_rfl
theorem k27 : compFun Try.prog (fun _ => 0) 27 = some c27.er := by kernel_rfl


theorem C48 (v : VT) : Pure (PCalls Try.prog GG) 48 [v.av] (b2 v.plain) := by
  rw [VT.av_eq]
  intro st; refine pcalls_of k48 e48 (of_decide_eq_true rfl) ?_; dsimp only [c48]; refine pstartL ?_; intro t hL; generalize hQ : pfin _ _ = Q
  (refine gor hL ?_; (repeat (clear hL; intro t hL; refine gor hL ?_))); refine po_boxA hL ?_; clear hL; intro p1 t hL
  refine gor hL ?_; (repeat (clear hL; intro t hL; refine gor hL ?_))
  refine po_c0 (C47 v.f) ?_
  refine gor hL ?_; (repeat (clear hL; intro t hL; refine gor hL ?_))
  rw [← hQ]
  exact pfin_pure rfl hL.le

/-- The first that is so, or -1. -/
def idxOf (p : VT → Bool) (l : List VT) : Int := match l.findIdx? p with | some i => (i : Int) | none => -1
theorem idxOf_any (p : VT → Bool) (l : List VT) : decide (idxOf p l ≥ 0) = l.any p := by
  rw [← List.findIdx?_isSome, idxOf]
  cases l.findIdx? p with
  | none => rfl
  | some i => simp
theorem idxOf_none {p : VT → Bool} {l : List VT} (h : l.any p = false) : idxOf p l = -1 := by
  rw [← List.findIdx?_isSome] at h
  rw [idxOf]
  cases e : l.findIdx? p with
  | none => rfl
  | some i => rw [e] at h; cases h
theorem idxOf_at {p : VT → Bool} {l : List VT} {i : Nat} {x : VT} (hx : l[i]? = some x) (h : p x = true) (hI : (l.take i).any p = false) : idxOf p l = i := by
  obtain ⟨hi, rfl⟩ := List.getElem?_eq_some_iff.1 hx
  have : l.findIdx? p = some i := List.findIdx?_eq_some_iff_getElem.2 ⟨hi, h, fun j hj => by
    have hj' : j < (l.take i).length := by rw [List.length_take]; omega
    have := List.any_eq_false.1 hI (l.take i)[j] (List.getElem_mem hj')
    simpa using this⟩
  rw [idxOf, this]
theorem C54 (g : FuncId) (caps : List Dat) (p : VT → Bool) (l : List VT) (hl : l.length < 2 ^ 60) (st : St) (hg : ∀ t, st.le t → ∀ x ∈ l, PureAt (PCalls Try.prog GG) t g (x.av :: caps.map .d) (b2 (p x))) :
    PureAt (PCalls Try.prog GG) st 54 [.d (.sl (l.map VT.row)), .d (.fn g [] caps)] (.d (.int .i64 (idxOf p l))) := by
  refine pcalls_of k54 e54 (of_decide_eq_true rfl) ?_; dsimp only [c54]
  refine pstartL ?_; intro t hL; generalize hQ : pfin _ _ = Q
  refine gor hL ?_; (repeat (clear hL; intro t hL; refine gor hL ?_))
  (apply prangeK hL (l.length) (by omega) (fun i => (l.take i).any p = false)); (· exact trimA); (· exact fun _ => rfl)
  · rfl
  · intro t hL hI
    rw [List.take_length] at hI
    refine gor hL ?_; (repeat (clear hL; intro t hL; refine gor hL ?_))
    rw [← hQ]
    rw [idxOf_none hI]
    exact pfin_pure rfl hL.le
  · intro i hi t hL hI
    obtain ⟨x, hx, hxm⟩ := elem_at hi
    refine pblock ?_
    refine gor hL ?_; (repeat (clear hL; intro t hL; refine gor hL ?_))
    have hc := hg t hL.le x hxm
    rw [VT.av_eq] at hc
    refine po_callv rfl rfl hc (fun _ _ h => False.elim h) ?_
    refine gor hL ?_; (repeat (clear hL; intro t hL; refine gor hL ?_))
    refine pcond_b rfl (fun h => ?_) (fun h => ?_)
    · refine gor hL ?_; (repeat (clear hL; intro t hL; refine gor hL ?_))
      rw [← hQ]
      rw [idxOf_at hx h hI]
      exact pfin_pure rfl hL.le
    · refine gor hL ?_; (repeat (clear hL; intro t hL; refine gor hL ?_))
      refine ⟨hL.pk, ?_, tr2⟩
      rw [take_snoc hx, List.any_append, hI]
      simp [h]
theorem C49 (g : FuncId) (caps : List Dat) (p : VT → Bool) (l : List VT) (hl : l.length < 2 ^ 60) (st : St) (hg : ∀ t, st.le t → ∀ x ∈ l, PureAt (PCalls Try.prog GG) t g (x.av :: caps.map .d) (b2 (p x))) :
    PureAt (PCalls Try.prog GG) st 49 [.d (.sl (l.map VT.row)), .d (.fn g [] caps)] (b2 (l.any p)) := by
  refine pcalls_of k49 e49 (of_decide_eq_true rfl) ?_; dsimp only [c49]
  refine pstartL ?_; intro t hL; generalize hQ : pfin _ _ = Q
  refine gor hL ?_; (repeat (clear hL; intro t hL; refine gor hL ?_))
  refine po_callA rfl (C54 g caps p l hl t (fun t' h => hg t' (hL.le.trans h))) (fun _ _ h => False.elim h) ?_
  refine gor hL ?_; (repeat (clear hL; intro t hL; refine gor hL ?_))
  rw [← hQ]
  rw [← idxOf_any]
  exact pfin_pure rfl hL.le

theorem C50 (d : Nat) (T : KT) (x : VT) (y : KT) (hy : T.of[0]? = some y) (hd : d + 1 ≤ 1000) (p3 p5 : Nat) (st : St) (h3 : st.box p3 = some [.d (.int .u8 T.kind), .d (.int .i64 T.most), .d (.sl (T.names.map fun s => [.str s])), .d (.sl (T.of.map KT.row))]) (h5 : st.box p5 = some [i64 (d + 1 : Nat)])
    (ih : Pure (PCalls Try.prog GG) 45 [y.av, x.av, i64 d] (b2 (VT.is d y x))) :
    PureAt (PCalls Try.prog GG) st 50 [x.av, ptrAt p3, ptrAt p5] (b2 (!VT.is d y x)) := by
  rw [VT.av_eq, KT.av_eq] at *
  refine pcalls_of k50 e50 (of_decide_eq_true rfl) ?_; dsimp only [c50]
  refine pstartL ?_; intro t hL; generalize hQ : pfin _ _ = Q
  (refine gor hL ?_; (repeat (clear hL; intro t hL; refine gor hL ?_))); refine po_boxA hL ?_; clear hL; intro p9 t hL
  refine gor hL ?_; (repeat (clear hL; intro t hL; refine gor hL ?_))
  refine gor hL ?_; (repeat (clear hL; intro t hL; refine gor hL ?_))
  refine gnm ?_; rw [IntWalk.i64_in (((d + 1 : Nat) : Int) - 1) (by omega), show ((d + 1 : Nat) : Int) - 1 = d by omega]
  refine po_c0 (ih) ?_
  refine gor hL ?_; (repeat (clear hL; intro t hL; refine gor hL ?_))
  rw [← hQ]
  exact pfin_pure rfl hL.le

theorem C45 : ∀ (d : Nat) (T : KT) (v : VT), d ≤ 1000 → T.fit → v.fit → Pure (PCalls Try.prog GG) 45 [T.av, v.av, i64 d] (b2 (VT.is d T v)) := by
  intro d
  induction d with
  | zero =>
    intro T v _ _ _
    rw [KT.av_eq, VT.av_eq]
    intro st; refine pcalls_of k45 e45 (of_decide_eq_true rfl) ?_; dsimp only [c45]; refine pstartL ?_; intro t hL; generalize hQ : pfin _ _ = Q
    (refine gor hL ?_; (repeat (clear hL; intro t hL; refine gor hL ?_))); refine po_boxA hL ?_; clear hL; intro p3 t hL
    (refine gor hL ?_; (repeat (clear hL; intro t hL; refine gor hL ?_))); refine po_boxA hL ?_; clear hL; intro p4 t hL
    (refine gor hL ?_; (repeat (clear hL; intro t hL; refine gor hL ?_))); refine po_boxA hL ?_; clear hL; intro p5 t hL
    refine gor hL ?_; (repeat (clear hL; intro t hL; refine gor hL ?_))
    rw [← hQ]
    exact pfin_pure rfl hL.le
  | succ d ih =>
  intro T v hd hT hv
  have hP := C48 v
  have hl := hv.len
  rw [KT.av_eq, VT.av_eq] at *
  intro st; refine pcalls_of k45 e45 (of_decide_eq_true rfl) ?_; dsimp only [c45]; refine pstartL ?_; intro t hL; generalize hQ : pfin _ _ = Q
  (refine gor hL ?_; (repeat (clear hL; intro t hL; refine gor hL ?_))); refine po_boxA hL ?_; clear hL; intro p3 t hL
  (refine gor hL ?_; (repeat (clear hL; intro t hL; refine gor hL ?_))); refine po_boxA hL ?_; clear hL; intro p4 t hL
  (refine gor hL ?_; (repeat (clear hL; intro t hL; refine gor hL ?_))); refine po_boxA hL ?_; clear hL; intro p5 t hL
  refine gor hL ?_; (repeat (clear hL; intro t hL; refine gor hL ?_))
  have hd1 : decide (((d + 1 : Nat) : Int) < 1) = false := decide_eq_false (by omega)
  refine gnm ?_; rw [hd1]
  refine gor hL ?_; (repeat (clear hL; intro t hL; refine gor hL ?_))
  rw [VT.is] at hQ
  refine pcond_b rfl (fun h0 => ?_) (fun h0 => ?_)
  · have h0' : T.kind = 0 := by simpa using h0
    rw [if_pos h0'] at hQ
    refine gor hL ?_; (repeat (clear hL; intro t hL; refine gor hL ?_))
    refine po_c0 (hP) ?_
    refine gor hL ?_; (repeat (clear hL; intro t hL; refine gor hL ?_))
    rw [← hQ]
    exact pfin_pure rfl hL.le
  have n0 : ¬ T.kind = 0 := by simpa using h0
  refine gor hL ?_; (repeat (clear hL; intro t hL; refine gor hL ?_))
  refine pcond_b rfl (fun h1 => ?_) (fun h1 => ?_)
  · have h1' : T.kind = 1 := by simpa using h1
    rw [if_neg n0, if_pos h1'] at hQ
    refine gor hL ?_; (repeat (clear hL; intro t hL; refine gor hL ?_))
    refine po_c0 (hP) ?_
    refine gor hL ?_; (repeat (clear hL; intro t hL; refine gor hL ?_))
    rw [← hQ]
    exact pfin_pure rfl hL.le
  have n1 : ¬ T.kind = 1 := by simpa using h1
  refine gor hL ?_; (repeat (clear hL; intro t hL; refine gor hL ?_))
  refine pcond_b rfl (fun h2 => ?_) (fun h2 => ?_)
  · have h2' : T.kind = 2 := by simpa using h2
    rw [if_neg n0, if_neg n1, if_pos h2'] at hQ
    refine gor hL ?_; (repeat (clear hL; intro t hL; refine gor hL ?_))
    refine po_c0 (hP) ?_
    refine gor hL ?_; (repeat (clear hL; intro t hL; refine gor hL ?_))
    rw [← hQ]
    exact pfin_pure rfl hL.le
  have n2 : ¬ T.kind = 2 := by simpa using h2
  refine gor hL ?_; (repeat (clear hL; intro t hL; refine gor hL ?_))
  refine pcond_b rfl (fun h3 => ?_) (fun h3 => ?_)
  · have h3' : T.kind = 3 := by simpa using h3
    rw [if_neg n0, if_neg n1, if_neg n2, if_pos h3'] at hQ
    refine gor hL ?_; (repeat (clear hL; intro t hL; refine gor hL ?_))
    rw [← hQ]
    exact pfin_pure rfl hL.le
  have n3 : ¬ T.kind = 3 := by simpa using h3
  refine gor hL ?_; (repeat (clear hL; intro t hL; refine gor hL ?_))
  refine pcond_b rfl (fun h4 => ?_) (fun h4 => ?_)
  · have h4' : T.kind = 4 := by simpa using h4
    rw [if_neg n0, if_neg n1, if_neg n2, if_neg n3, if_pos h4'] at hQ
    refine gor hL ?_; (repeat (clear hL; intro t hL; refine gor hL ?_))
    ((with_reducible apply po_g); (· exact gwt); (· (intro hw; refine does_call0 ?_ (C47 v.f); exact gargs hw)))
    refine gor hL ?_; (repeat (clear hL; intro t hL; refine gor hL ?_))
    rw [← hQ]
    exact pfin_pure rfl hL.le
  have n4 : ¬ T.kind = 4 := by simpa using h4
  refine gor hL ?_; (repeat (clear hL; intro t hL; refine gor hL ?_))
  refine pcond_b rfl (fun h7 => ?_) (fun h7 => ?_)
  · have h7' : T.kind = 7 := by simpa using h7
    rw [if_neg n0, if_neg n1, if_neg n2, if_neg n3, if_neg n4, if_pos h7'] at hQ
    refine gor hL ?_; (repeat (clear hL; intro t hL; refine gor hL ?_))
    refine po_c0 (hP) ?_
    refine gor hL ?_; (repeat (clear hL; intro t hL; refine gor hL ?_))
    rw [← hQ]
    exact pfin_pure rfl hL.le
  have n7 : ¬ T.kind = 7 := by simpa using h7
  refine gor hL ?_; (repeat (clear hL; intro t hL; refine gor hL ?_))
  refine po_c0 (C47 v.f) ?_
  refine gor hL ?_; (repeat (clear hL; intro t hL; refine gor hL ?_))
  refine pcond_b rfl (fun hb => ?_) (fun hb => ?_)
  · rw [if_neg n0, if_neg n1, if_neg n2, if_neg n3, if_neg n4, if_neg n7, if_pos hb] at hQ
    refine gor hL ?_; (repeat (clear hL; intro t hL; refine gor hL ?_))
    rw [← hQ]
    exact pfin_pure rfl hL.le
  rw [if_neg n0, if_neg n1, if_neg n2, if_neg n3, if_neg n4, if_neg n7, if_neg (by rw [hb]; decide)] at hQ
  refine gor hL ?_; (repeat (clear hL; intro t hL; refine gor hL ?_))
  refine pcond_b rfl (fun h5 => ?_) (fun h5 => ?_)
  · have h5' : T.kind = 5 := by simpa using h5
    rw [if_pos h5'] at hQ
    refine gor hL ?_; (repeat (clear hL; intro t hL; refine gor hL ?_))
    refine pcond_b rfl (fun hc => ?_) (fun hc => ?_)
    · have hc' : v.n ≠ 0 ∨ (v.of.length : Int) > T.most ∨ T.of.length ≠ 1 := by
        simp only [Bool.or_eq_true, bne_iff_ne, decide_eq_true_eq] at hc; omega
      rw [if_pos hc'] at hQ
      refine gor hL ?_; (repeat (clear hL; intro t hL; refine gor hL ?_))
      rw [← hQ]
      exact pfin_pure rfl hL.le
    have hc' : ¬ (v.n ≠ 0 ∨ (v.of.length : Int) > T.most ∨ T.of.length ≠ 1) := by
      simp only [Bool.or_eq_false_iff, bne_eq_false_iff_eq, decide_eq_false_iff_not] at hc; omega
    rw [if_neg hc'] at hQ
    have hlen : 0 < T.of.length := by omega
    obtain ⟨y, hy, hym⟩ := elem_at hlen
    have hg : T.of.getD 0 (.mk 0 0 [] []) = y := by rw [List.getD_eq_getElem?_getD, hy]; rfl
    rw [hg] at hQ
    have hx3 := hL.bx (b := p3) (by repeat (first | exact Rem.head | apply Rem.tail))
    have hx5 := hL.bx (b := p5) (by repeat (first | exact Rem.head | apply Rem.tail))
    refine gor hL ?_; (repeat (clear hL; intro t hL; refine gor hL ?_))
    refine po_callA rfl (C49 50 [.ptr p3 0, .ptr p5 0] (fun x => !VT.is d y x) v.of (by omega) t (fun t' hle x hx => C50 d T x y hy hd p3 p5 t' (hle.box _ _ hx3) (hle.box _ _ hx5) (ih y x (by omega) (((KT.fit_eq T).1 hT).2.2 _ hym) (hv.part hx)))) (fun _ _ h => False.elim h) ?_
    refine gor hL ?_; (repeat (clear hL; intro t hL; refine gor hL ?_))
    rw [← hQ]
    rw [List.all_eq_not_any_not]
    exact pfin_pure rfl hL.le
  have n5 : ¬ T.kind = 5 := by simpa using h5
  rw [if_neg n5] at hQ
  refine gor hL ?_; (repeat (clear hL; intro t hL; refine gor hL ?_))
  refine pcond_b rfl (fun h6 => ?_) (fun h6 => ?_)
  · have h6' : T.kind = 6 := by simpa using h6
    rw [if_pos h6'] at hQ
    refine gor hL ?_; (repeat (clear hL; intro t hL; refine gor hL ?_))
    refine pcond_b rfl (fun hc => ?_) (fun hc => ?_)
    · have hc' : v.n ≠ 0 ∨ v.of.length ≠ T.of.length := by
        simp only [Bool.or_eq_true, bne_iff_ne] at hc; omega
      rw [if_pos hc'] at hQ
      refine gor hL ?_; (repeat (clear hL; intro t hL; refine gor hL ?_))
      rw [← hQ]
      exact pfin_pure rfl hL.le
    have hc' : ¬ (v.n ≠ 0 ∨ v.of.length ≠ T.of.length) := by
      simp only [Bool.or_eq_false_iff, bne_eq_false_iff_eq] at hc; omega
    rw [if_neg hc'] at hQ
    refine gor hL ?_; (repeat (clear hL; intro t hL; refine gor hL ?_))
    (apply prangeK hL (v.of.length) (by omega) (fun i => allZip (VT.is d) T.of v.of = allZip (VT.is d) (T.of.drop i) (v.of.drop i))); (· exact trimA); (· exact fun _ => rfl)
    · rfl
    · intro t hL hI
      rw [List.drop_length, allZip_nil] at hI
      rw [hI] at hQ
      refine gor hL ?_; (repeat (clear hL; intro t hL; refine gor hL ?_))
      rw [← hQ]
      exact pfin_pure rfl hL.le
    · intro i hi t hL hI
      obtain ⟨x, hx, hxm⟩ := elem_at hi
      obtain ⟨y, hy, hym⟩ := elem_at (l := T.of) (k := i) (by omega)
      rw [allZip_drop hy hx] at hI
      have hc := ih y x (by omega) (((KT.fit_eq T).1 hT).2.2 _ hym) (hv.part hxm)
      rw [KT.av_eq, VT.av_eq] at hc
      refine pblock ?_
      (refine gor hL ?_; (repeat (clear hL; intro t hL; refine gor hL ?_))); (with_reducible refine po_allocL hL rfl ?_); clear hL; intro p8 t hL
      refine gor hL ?_; (repeat (clear hL; intro t hL; refine gor hL ?_))
      refine gnm ?_; rw [IntWalk.i64_in (((d + 1 : Nat) : Int) - 1) (by omega), show ((d + 1 : Nat) : Int) - 1 = d by omega]
      refine po_c0 (hc) ?_
      refine gor hL ?_; (repeat (clear hL; intro t hL; refine gor hL ?_))
      refine pcond_b rfl (fun h => ?_) (fun h => ?_)
      · have h' : VT.is d y x = false := by simpa using h
        rw [hI, h', Bool.false_and] at hQ
        refine gor hL ?_; (repeat (clear hL; intro t hL; refine gor hL ?_))
        rw [← hQ]
        exact pfin_pure rfl hL.le
      · have h' : VT.is d y x = true := by simpa using h
        refine gor hL ?_; (repeat (clear hL; intro t hL; refine gor hL ?_))
        refine ⟨hL.pk, ?_, tr2⟩
        rw [hI, h', Bool.true_and]
  have n6 : ¬ T.kind = 6 := by simpa using h6
  rw [if_neg n6] at hQ
  refine gor hL ?_; (repeat (clear hL; intro t hL; refine gor hL ?_))
  refine pcond_b rfl (fun h8 => ?_) (fun h8 => ?_)
  · have h8' : T.kind = 8 := by simpa using h8
    rw [if_pos h8'] at hQ
    refine gor hL ?_; (repeat (clear hL; intro t hL; refine gor hL ?_))
    by_cases hc : 0 ≤ v.n ∧ v.n < T.of.length ∧ v.of.length = 1
    · rw [if_pos hc] at hQ
      obtain ⟨k, hk⟩ : ∃ k : Nat, v.n = k := ⟨v.n.toNat, by omega⟩
      have hkl : k < T.of.length := by omega
      obtain ⟨y, hy, hym⟩ := elem_at hkl
      obtain ⟨x, hx, hxm⟩ := elem_at (l := v.of) (k := 0) (by omega)
      have hg : T.of.getD v.n.toNat (.mk 0 0 [] []) = y := by rw [hk, Int.toNat_natCast, List.getD_eq_getElem?_getD, hy]; rfl
      have hg' : v.of.getD 0 VT.zero = x := by rw [List.getD_eq_getElem?_getD, hx]; rfl
      rw [hg, hg'] at hQ
      have hcc := ih y x (by omega) (((KT.fit_eq T).1 hT).2.2 _ hym) (hv.part hxm)
      rw [KT.av_eq, VT.av_eq] at hcc
      have e1 : decide ((k : Int) ≥ 0) = true := decide_eq_true (by omega)
      have e2 : decide ((k : Int) < (T.of.length : Int)) = true := decide_eq_true (by omega)
      have e3 : ((v.of.length : Int) == 1) = true := by rw [hc.2.2]; rfl
      refine gnm ?_; rw [hk, e1, e2, e3]
      refine gor hL ?_; (repeat (clear hL; intro t hL; refine gor hL ?_))
      refine gnm ?_; rw [IntWalk.i64_in (((d + 1 : Nat) : Int) - 1) (by omega), show ((d + 1 : Nat) : Int) - 1 = d by omega]
      refine po_c0 (hcc) ?_
      refine gor hL ?_; (repeat (clear hL; intro t hL; refine gor hL ?_))
      rw [← hQ]
      exact pfin_pure rfl hL.le
    · rw [if_neg hc] at hQ
      have e0 : (decide (v.n ≥ 0) && decide (v.n < (T.of.length : Int)) && ((v.of.length : Int) == 1)) = false := by
        rw [Bool.eq_false_iff]
        intro e
        simp only [Bool.and_eq_true, decide_eq_true_eq, beq_iff_eq] at e
        omega
      refine gnm ?_; rw [e0]
      refine gor hL ?_; (repeat (clear hL; intro t hL; refine gor hL ?_))
      rw [← hQ]
      exact pfin_pure rfl hL.le
  have n8 : ¬ T.kind = 8 := by simpa using h8
  rw [if_neg n8] at hQ
  refine gor hL ?_; (repeat (clear hL; intro t hL; refine gor hL ?_))
  rw [← hQ]
  exact pfin_pure rfl hL.le
/-- The error's number, of a value that isn't of a type. -/
def VT.checkE (T : KT) (v : VT) : Int := if VT.is 20 T v = true then 0 else 17
theorem C27 (T : KT) (v : VT) (hT : T.fit) (hv : v.fit) : Pure (PCalls Try.prog GG) 27 [T.av, v.av] (.d (.int .i64 (VT.checkE T v))) := by
  have hc := C45 20 T v (by decide) hT hv
  rw [KT.av_eq, VT.av_eq] at *
  intro st; refine pcalls_of k27 e27 (of_decide_eq_true rfl) ?_; dsimp only [c27]; refine pstartL ?_; intro t hL; generalize hQ : pfin _ _ = Q
  (refine gor hL ?_; (repeat (clear hL; intro t hL; refine gor hL ?_))); refine po_boxA hL ?_; clear hL; intro p2 t hL
  (refine gor hL ?_; (repeat (clear hL; intro t hL; refine gor hL ?_))); refine po_boxA hL ?_; clear hL; intro p3 t hL
  refine gor hL ?_; (repeat (clear hL; intro t hL; refine gor hL ?_))
  refine po_c0 (hc) ?_
  refine gor hL ?_; (repeat (clear hL; intro t hL; refine gor hL ?_))
  refine pcond_b rfl (fun h => ?_) (fun h => ?_)
  · have h' : VT.is 20 T v = false := by simpa using h
    rw [VT.checkE, h'] at hQ
    refine gor hL ?_; (repeat (clear hL; intro t hL; refine gor hL ?_))
    rw [← hQ]
    exact pfin_pure rfl hL.le
  · have h' : VT.is 20 T v = true := by simpa using h
    rw [VT.checkE, h'] at hQ
    refine gor hL ?_; (repeat (clear hL; intro t hL; refine gor hL ?_))
    rw [← hQ]
    exact pfin_pure rfl hL.le
end Go.Pv
namespace Go.Pv
open Go.Proofs
set_option maxRecDepth 100000
set_option maxHeartbeats 8000000

/-- prompter/value.Flat -/
abbrev c16_5 : PCode :=
 (.region [⟨(.some 14), (.load .false 1 (.t 8) .false), .none⟩,
   ⟨(.some 15), (.load .true 4 (.t 3) .false), .none⟩,
   ⟨(.some 16), (.load .true 4 (.t 4) .false), .none⟩,
   ⟨(.some 17), (.callv0 (.t 14) [(.t 15), (.t 16)]), .none⟩])
abbrev c16_4 : PCode :=
 (.cond (.t 13)
  c16_5
  .skip)
abbrev c16_6 : PCode :=
 (.keep [5, 7] (.seq (.region [⟨(.some 18), (.load .false 1 (.t 7) .false), .none⟩,
   ⟨(.some 19), (.load .false 1 (.t 7) .false), .none⟩,
   ⟨(.some 20), (.len (.t 19)), .none⟩,
   ⟨(.some 21), (.load .false 1 (.t 5) .false), .none⟩,
   ⟨(.some 22), (.minmax .true (.t 21) [(.c (.d (.int .i64 0)))]), .none⟩,
   ⟨(.some 23), (.minmax .false (.t 20) [(.t 22)]), .none⟩,
   ⟨(.some 24), (.slc 1 (.t 18) .none (.some (.t 23))), .none⟩,
   ⟨(.some 6), (.mov (.t 24)), .none⟩])
 .ret))
abbrev c16_3 : PCode :=
 (.seq (.seq (.region [⟨(.some 10), (.load .true 4 (.t 3) .false), .none⟩,
   ⟨(.some 11), (.load .true 4 (.t 4) .false), .none⟩,
   ⟨(.some 12), (.call0 27 [(.t 10), (.t 11)]), .none⟩,
   ⟨(.some 13), (.bin .eql (.t 12) (.c (.d (.int .i64 0)))), .none⟩])
 c16_4)
 c16_6)
abbrev c16_2 : PCode :=
 (.seq (.region [⟨(.some 9), (.mkfn 36 [] [(.t 7), (.t 5), (.t 8)]), .none⟩,
   ⟨.none, (.store 1 (.t 8) (.t 9)), .none⟩])
 c16_3)
abbrev c16_1 : PCode :=
 (.seq (.region [⟨(.some 8), (.alloc [(.d .nilf)]), .none⟩])
 c16_2)
abbrev c16_0 : PCode :=
 (.keep [3, 4, 5] (.seq (.region [⟨(.some 7), (.alloc [(.full [])]), .none⟩])
 c16_1))
def c16 : PFun := ⟨
 (.seq (.region [⟨(.some 3), (.box 4 (.t 0)), .none⟩,
   ⟨(.some 4), (.box 4 (.t 1)), .none⟩,
   ⟨(.some 5), (.box 1 (.t 2)), .none⟩,
   ⟨(.some 6), (.mov (.c (.full []))), .none⟩])
 c16_0),
 3, 25, [(.tmp 6)]⟩

/-- prompter/value.Flat$1 -/
abbrev c36_1 : PCode :=
 (.cond (.t 14)
  .ret
  .skip)
abbrev c36_5 : PCode :=
 (.region [⟨(.some 24), (.load .false 1 (.t 2) .false), .none⟩,
   ⟨(.some 25), (.faddr 1 (.t 6)), .none⟩,
   ⟨(.some 26), (.load .false 1 (.t 25) .false), .none⟩,
   ⟨(.some 27), (.callp 37 [(.t 26)]), .none⟩,
   ⟨(.some 28), (.bsl 1 [(.t 27)]), .none⟩,
   ⟨(.some 29), (.app 1 8 (.t 24) (.t 28)), .none⟩,
   ⟨.none, (.store 1 (.t 2) (.t 29)), .none⟩])
abbrev c36_8 : PCode :=
 (.region [⟨(.some 32), (.load .false 1 (.t 2) .false), .none⟩,
   ⟨(.some 33), (.faddr 2 (.t 6)), .none⟩,
   ⟨(.some 34), (.load .false 1 (.t 33) .false), .none⟩,
   ⟨(.some 35), (.lenS (.t 34)), .none⟩,
   ⟨(.some 36), (.bsl 1 [(.t 35)]), .none⟩,
   ⟨(.some 37), (.app 1 8 (.t 32) (.t 36)), .none⟩,
   ⟨.none, (.store 1 (.t 2) (.t 37)), .none⟩])
abbrev c36_15 : PCode :=
 (.region [⟨(.some 53), (.load .false 1 (.t 4) .false), .none⟩,
   ⟨(.some 54), (.faddr 3 (.t 5)), .none⟩,
   ⟨(.some 55), (.load .false 1 (.t 54) .false), .none⟩,
   ⟨(.some 56), (.iaddr 4 (.t 55) (.c (.d (.int .i64 0)))), .none⟩,
   ⟨(.some 57), (.load .true 4 (.t 56) .false), .none⟩,
   ⟨(.some 58), (.load .true 4 (.t 8) .false), .none⟩,
   ⟨(.some 59), (.callv0 (.t 53) [(.t 57), (.t 58)]), .none⟩])
abbrev c36_14 : PCode :=
 (.block 2 (.seq (.region [⟨(.some 51), (.iaddr 4 (.t 47) (.t 49)), .none⟩,
   ⟨(.some 52), (.load .true 4 (.t 51) .false), .none⟩,
   ⟨(.some 8), (.alloc [(.d (.int .i64 0)), (.d (.flt .f64 0)), (.d (.str (bs []))), (.full [])]), .none⟩,
   ⟨.none, (.store 4 (.t 8) (.t 52)), .none⟩])
 c36_15))
abbrev c36_13 : PCode :=
 (.keep [4, 5, 47, 48, 49] (.block 1 (.loop (.some [49, 4, 5, 47, 48]) (.seq (.region [⟨(.some 50), (.bin .lss (.t 49) (.t 48)), .none⟩])
 (.seq (.cond (.t 50)
  .skip
  (.exit 1))
 (.seq c36_14
 (.region [⟨(.some 60), (.bin .add (.t 49) (.c (.d (.int .i64 1)))), .none⟩,
   ⟨(.some 49), (.mov (.t 60)), .none⟩])))))))
abbrev c36_12 : PCode :=
 (.keep [4, 5, 6] (.seq (.region [⟨(.some 46), (.faddr 3 (.t 6)), .none⟩,
   ⟨(.some 47), (.load .false 1 (.t 46) .false), .none⟩,
   ⟨(.some 48), (.len (.t 47)), .none⟩,
   ⟨(.some 49), (.mov (.c (.d (.int .i64 0)))), .none⟩])
 c36_13))
abbrev c36_11 : PCode :=
 (.seq (.region [⟨(.some 40), (.load .false 1 (.t 2) .false), .none⟩,
   ⟨(.some 41), (.faddr 3 (.t 6)), .none⟩,
   ⟨(.some 42), (.load .false 1 (.t 41) .false), .none⟩,
   ⟨(.some 43), (.len (.t 42)), .none⟩,
   ⟨(.some 44), (.bsl 1 [(.t 43)]), .none⟩,
   ⟨(.some 45), (.app 1 8 (.t 40) (.t 44)), .none⟩,
   ⟨.none, (.store 1 (.t 2) (.t 45)), .none⟩])
 c36_12)
abbrev c36_21 : PCode :=
 (.keep [4, 5, 9, 10, 64, 65, 66] (.region [⟨(.some 71), (.load .false 1 (.t 4) .false), .none⟩,
   ⟨(.some 72), (.faddr 3 (.t 5)), .none⟩,
   ⟨(.some 73), (.load .false 1 (.t 72) .false), .none⟩,
   ⟨(.some 74), (.mov (.t 9)), .none⟩,
   ⟨(.some 75), (.iaddr 4 (.t 73) (.t 74)), .none⟩,
   ⟨(.some 76), (.load .true 4 (.t 75) .false), .none⟩,
   ⟨(.some 77), (.load .true 4 (.t 10) .false), .none⟩,
   ⟨(.some 78), (.callv0 (.t 71) [(.t 76), (.t 77)]), .none⟩]))
abbrev c36_20 : PCode :=
 (.block 4 (.seq (.region [⟨(.some 68), (.mov (.t 66)), .none⟩,
   ⟨(.some 69), (.iaddr 4 (.t 64) (.t 66)), .none⟩,
   ⟨(.some 70), (.load .true 4 (.t 69) .false), .none⟩,
   ⟨(.some 10), (.alloc [(.d (.int .i64 0)), (.d (.flt .f64 0)), (.d (.str (bs []))), (.full [])]), .none⟩,
   ⟨(.some 9), (.mov (.t 68)), .none⟩,
   ⟨.none, (.store 4 (.t 10) (.t 70)), .none⟩])
 c36_21))
abbrev c36_19 : PCode :=
 (.keep [4, 5, 64, 65, 66] (.block 3 (.loop (.some [66, 4, 5, 64, 65]) (.seq (.region [⟨(.some 67), (.bin .lss (.t 66) (.t 65)), .none⟩])
 (.seq (.cond (.t 67)
  .skip
  (.exit 3))
 (.seq c36_20
 (.region [⟨(.some 79), (.bin .add (.t 66) (.c (.d (.int .i64 1)))), .none⟩,
   ⟨(.some 66), (.mov (.t 79)), .none⟩])))))))
abbrev c36_18 : PCode :=
 (.seq (.region [⟨(.some 63), (.faddr 3 (.t 6)), .none⟩,
   ⟨(.some 64), (.load .false 1 (.t 63) .false), .none⟩,
   ⟨(.some 65), (.len (.t 64)), .none⟩,
   ⟨(.some 66), (.mov (.c (.d (.int .i64 0)))), .none⟩])
 c36_19)
abbrev c36_25 : PCode :=
 (.keep [4, 5, 6] (.region [⟨(.some 87), (.load .false 1 (.t 4) .false), .none⟩,
   ⟨(.some 88), (.faddr 3 (.t 5)), .none⟩,
   ⟨(.some 89), (.load .false 1 (.t 88) .false), .none⟩,
   ⟨(.some 90), (.faddr 0 (.t 6)), .none⟩,
   ⟨(.some 91), (.load .false 1 (.t 90) .false), .none⟩,
   ⟨(.some 92), (.iaddr 4 (.t 89) (.t 91)), .none⟩,
   ⟨(.some 93), (.load .true 4 (.t 92) .false), .none⟩,
   ⟨(.some 94), (.faddr 3 (.t 6)), .none⟩,
   ⟨(.some 95), (.load .false 1 (.t 94) .false), .none⟩,
   ⟨(.some 96), (.iaddr 4 (.t 95) (.c (.d (.int .i64 0)))), .none⟩,
   ⟨(.some 97), (.load .true 4 (.t 96) .false), .none⟩,
   ⟨(.some 98), (.callv0 (.t 87) [(.t 93), (.t 97)]), .none⟩]))
abbrev c36_24 : PCode :=
 (.seq (.region [⟨(.some 82), (.load .false 1 (.t 2) .false), .none⟩,
   ⟨(.some 83), (.faddr 0 (.t 6)), .none⟩,
   ⟨(.some 84), (.load .false 1 (.t 83) .false), .none⟩,
   ⟨(.some 85), (.bsl 1 [(.t 84)]), .none⟩,
   ⟨(.some 86), (.app 1 8 (.t 82) (.t 85)), .none⟩,
   ⟨.none, (.store 1 (.t 2) (.t 86)), .none⟩])
 c36_25)
abbrev c36_26 : PCode :=
 (.region [⟨(.some 17), (.load .false 1 (.t 2) .false), .none⟩,
   ⟨(.some 18), (.faddr 0 (.t 6)), .none⟩,
   ⟨(.some 19), (.load .false 1 (.t 18) .false), .none⟩,
   ⟨(.some 20), (.bsl 1 [(.t 19)]), .none⟩,
   ⟨(.some 21), (.app 1 8 (.t 17) (.t 20)), .none⟩,
   ⟨.none, (.store 1 (.t 2) (.t 21)), .none⟩])
abbrev c36_23 : PCode :=
 (.cond (.t 80)
  c36_24
  c36_26)
abbrev c36_22 : PCode :=
 (.seq (.region [⟨(.some 81), (.bin .eql (.t 16) (.c (.d (.int .u8 8)))), .none⟩,
   ⟨(.some 80), (.mov (.t 81)), .none⟩])
 c36_23)
abbrev c36_17 : PCode :=
 (.cond (.t 61)
  c36_18
  c36_22)
abbrev c36_16 : PCode :=
 (.seq (.region [⟨(.some 62), (.bin .eql (.t 16) (.c (.d (.int .u8 6)))), .none⟩,
   ⟨(.some 61), (.mov (.t 62)), .none⟩])
 c36_17)
abbrev c36_10 : PCode :=
 (.cond (.t 38)
  c36_11
  c36_16)
abbrev c36_9 : PCode :=
 (.seq (.region [⟨(.some 39), (.bin .eql (.t 16) (.c (.d (.int .u8 5)))), .none⟩,
   ⟨(.some 38), (.mov (.t 39)), .none⟩])
 c36_10)
abbrev c36_7 : PCode :=
 (.cond (.t 30)
  c36_8
  c36_9)
abbrev c36_6 : PCode :=
 (.seq (.region [⟨(.some 31), (.bin .eql (.t 16) (.c (.d (.int .u8 4)))), .none⟩,
   ⟨(.some 30), (.mov (.t 31)), .none⟩])
 c36_7)
abbrev c36_4 : PCode :=
 (.cond (.t 22)
  c36_5
  c36_6)
abbrev c36_3 : PCode :=
 (.block 0 (.seq (.region [⟨(.some 23), (.bin .eql (.t 16) (.c (.d (.int .u8 3)))), .none⟩,
   ⟨(.some 22), (.mov (.t 23)), .none⟩])
 c36_4))
abbrev c36_2 : PCode :=
 (.keep [2, 4, 5, 6] (.seq (.region [⟨(.some 15), (.faddr 0 (.t 5)), .none⟩,
   ⟨(.some 16), (.load .false 1 (.t 15) .false), .none⟩])
 c36_3))
abbrev c36_0 : PCode :=
 (.seq (.seq (.region [⟨(.some 11), (.load .false 1 (.t 2) .false), .none⟩,
   ⟨(.some 12), (.len (.t 11)), .none⟩,
   ⟨(.some 13), (.load .false 1 (.t 3) .false), .none⟩,
   ⟨(.some 14), (.bin .geq (.t 12) (.t 13)), .none⟩])
 c36_1)
 c36_2)
def c36 : PFun := ⟨
 (.seq (.region [⟨(.some 5), (.box 4 (.t 0)), .none⟩,
   ⟨(.some 6), (.box 4 (.t 1)), .none⟩])
 c36_0),
 5, 99, []⟩

/-- prompter/real.Whole -/
abbrev c37_2 : PCode :=
 (.seq (.region [⟨(.some 2), (.mov (.c (.d (.int .i64 0)))), .none⟩])
 .ret)
abbrev c37_5 : PCode :=
 (.seq (.region [⟨(.some 2), (.mov (.c (.d (.int .i64 2147483648)))), .none⟩])
 .ret)
abbrev c37_8 : PCode :=
 (.seq (.region [⟨(.some 2), (.mov (.c (.d (.int .i64 (-2147483648))))), .none⟩])
 .ret)
abbrev c37_7 : PCode :=
 (.cond (.t 10)
  c37_8
  .skip)
abbrev c37_6 : PCode :=
 (.seq (.region [⟨(.some 11), (.mov (.t 0)), .none⟩,
   ⟨(.some 12), (.bin .leq (.t 11) (.c (.d (.flt .f64 13970166044103278592)))), .none⟩,
   ⟨(.some 10), (.mov (.t 12)), .none⟩])
 c37_7)
abbrev c37_4 : PCode :=
 (.cond (.t 7)
  c37_5
  c37_6)
abbrev c37_3 : PCode :=
 (.seq (.region [⟨(.some 8), (.mov (.t 0)), .none⟩,
   ⟨(.some 9), (.bin .geq (.t 8) (.c (.d (.flt .f64 4746794007248502784)))), .none⟩,
   ⟨(.some 7), (.mov (.t 9)), .none⟩])
 c37_4)
abbrev c37_1 : PCode :=
 (.cond (.t 3)
  c37_2
  c37_3)
abbrev c37_9 : PCode :=
 (.seq (.region [⟨(.some 13), (.mov (.t 0)), .none⟩,
   ⟨(.some 14), (.cvtI .i64 (.t 13)), .none⟩,
   ⟨(.some 2), (.mov (.t 14)), .none⟩])
 .ret)
abbrev c37_0 : PCode :=
 (.seq (.block 0 (.seq (.region [⟨(.some 4), (.mov (.t 0)), .none⟩,
   ⟨(.some 5), (.mov (.t 0)), .none⟩,
   ⟨(.some 6), (.bin .neq (.t 4) (.t 5)), .none⟩,
   ⟨(.some 3), (.mov (.t 6)), .none⟩])
 c37_1))
 c37_9)
def c37 : PFun := ⟨
 (.seq (.region [⟨(.some 2), (.mov (.c (.d (.int .i64 0)))), .none⟩])
 c37_0),
 1, 15, [(.tmp 2)]⟩

theorem e16 : entered Try.prog 16 = true := by kernel_rfl
theorem k16 : compFun Try.prog (fun _ => 0) 16 = some c16.er := by kernel_rfl
theorem e36 : entered Try.prog 36 = true := by kernel_rfl
theorem k36 : compFun Try.prog (fun i => if i = 5 then 1 else 0) 36 = some c36.er := by kernel_rfl
theorem e37 : entered Try.prog 37 = true := by kernel_rfl
theorem k37 : compFun Try.prog (fun _ => 0) 37 = some c37.er := by kernel_rfl


theorem C37 (b : Nat) : Pure (PCalls Try.prog GG) 37 [.d (.flt .f64 b)] (.d (.int .i64 (wholeF b))) := by
  intro st; refine pcalls_of k37 e37 (of_decide_eq_true rfl) ?_; dsimp only [c37]; refine pstartL ?_; intro t hL; generalize hQ : pfin _ _ = Q
  refine gor hL ?_; (repeat (clear hL; intro t hL; refine gor hL ?_))
  refine pcond_b rfl (fun h0 => ?_) (fun h0 => ?_)
  · rw [wholeF, if_pos h0] at hQ
    refine gor hL ?_; (repeat (clear hL; intro t hL; refine gor hL ?_))
    rw [← hQ]
    exact pfin_pure rfl hL.le
  have h0' : (F64.order b b != some .eq) = false := h0
  refine gor hL ?_; (repeat (clear hL; intro t hL; refine gor hL ?_))
  refine pcond_b rfl (fun h1 => ?_) (fun h1 => ?_)
  · rw [wholeF, if_neg (by rw [h0']; decide), if_pos h1] at hQ
    refine gor hL ?_; (repeat (clear hL; intro t hL; refine gor hL ?_))
    rw [← hQ]
    exact pfin_pure rfl hL.le
  have h1' : (F64.order b farB == some .gt || F64.order b farB == some .eq) = false := h1
  refine gor hL ?_; (repeat (clear hL; intro t hL; refine gor hL ?_))
  refine pcond_b rfl (fun h2 => ?_) (fun h2 => ?_)
  · rw [wholeF, if_neg (by rw [h0']; decide), if_neg (by rw [h1']; decide), if_pos h2] at hQ
    refine gor hL ?_; (repeat (clear hL; intro t hL; refine gor hL ?_))
    rw [← hQ]
    exact pfin_pure rfl hL.le
  have h2' : (F64.order b nfarB == some .lt || F64.order b nfarB == some .eq) = false := h2
  obtain ⟨n, hn, hr⟩ := whole_some h0' h1' h2'
  rw [wholeF, if_neg (by rw [h0']; decide), if_neg (by rw [h1']; decide), if_neg (by rw [h2']; decide), hn] at hQ
  refine gor hL ?_; (repeat (clear hL; intro t hL; refine gor hL ?_))
  refine po rfl (show ev _ _ _ = some (.d (.int .i64 n)) from ?_) ?_
  · show (match (FloatKind.f64.decode b).toInt .zero with | some n => if IntKind.i64.min ≤ n ∧ n ≤ IntKind.i64.max then some (AV.d (.int .i64 n)) else none | none => none) = _
    rw [hn]
    exact if_pos ⟨by simp [IntKind.min, IntKind.signed, IntKind.bits]; omega, by simp [IntKind.max, IntKind.signed, IntKind.bits]; omega⟩
  refine gor hL ?_; (repeat (clear hL; intro t hL; refine gor hL ?_))
  rw [← hQ]
  exact pfin_pure rfl hL.le

abbrev rowsI (l : List Int) : List (List Dat) := l.map fun n => [.int .i64 n]
theorem rowsI_len (l : List Int) : ∀ r ∈ rowsI l, r.length = 1 := fun r hr => by obtain ⟨x, _, rfl⟩ := List.mem_map.1 hr; rfl
theorem rowsI_app (l : List Int) (n : Int) : rowsI l ++ [[.int .i64 n]] = rowsI (l ++ [n]) := by rw [rowsI, rowsI, List.map_append]; rfl
def capW (pq pm pw : Nat) : AV := .d (.fn 36 [] [.ptr pq 0, .ptr pm 0, .ptr pw 0])
def wF (pq pm pw : Nat) (most : Int) (v : AV) (l : List Int) : List Item := [.box pq [v], .vec v (rowsI l) 1, .box pm [.d (.int .i64 most)], .box pw [capW pq pm pw]]
theorem walkC (most : Int) (pq pm pw : Nat) (hnd : [pq, pm, pw].Nodup) : ∀ (d : Nat) (t : KT) (v : VT) (out : List Int) (v0 : AV), VT.is d t v = true → t.fit → v.fit → out.length + v.count < 2 ^ 40 →
    CL (PCalls Try.prog GG) 36 [t.av, v.av, ptrAt pq, ptrAt pm, ptrAt pw] (wF pq pm pw most v0 out) (fun _ : AV => .tup []) (fun a => wF pq pm pw most a (walkM most d t v out)) := by
  intro d
  induction d with
  | zero => intro t v out v0 h; cases h
  | succ d ih =>
  intro T v out v0 his hT hv hlen
  refine ⟨Sat.out pq [v0] (fun a => [a]) v0 _ _ 1 1 [(pm, [.d (.int .i64 most)]), (pw, [capW pq pm pw])] hnd, ?_⟩
  have hcnt := VT.count_eq v
  rw [KT.av_eq, VT.av_eq]
  simp only [wF, capW] at ih ⊢
  rw [walkM]
  intro st t hL; refine pcalls_of k36 e36 (of_decide_eq_true rfl) ?_; dsimp only [c36]; generalize hQ : pfin _ _ = Q
  have f0 := hL.vk v0
  obtain ⟨f0_r, f0_w, f0_w1, f0_c, f0_s, f0_d⟩ := id f0
  (refine gor hL ?_; (repeat (clear hL; intro t hL; refine gor hL ?_))); refine po_boxA hL ?_; clear hL; intro p5 t hL
  (refine gor hL ?_; (repeat (clear hL; intro t hL; refine gor hL ?_))); refine po_boxA hL ?_; clear hL; intro p6 t hL
  refine gor hL ?_; (repeat (clear hL; intro t hL; refine gor hL ?_))
  refine pcond_b rfl (fun h0 => ?_) (fun h0 => ?_)
  · have h0' : (out.length : Int) ≥ most := by simpa using h0
    rw [if_pos h0'] at hQ
    refine gor hL ?_; (repeat (clear hL; intro t hL; refine gor hL ?_))
    rw [← hQ]
    exact pfinK v0 rfl (.inl rfl) hL
  have h0' : ¬ (out.length : Int) ≥ most := by simpa using h0
  rw [if_neg h0'] at hQ
  refine gor hL ?_; (repeat (clear hL; intro t hL; refine gor hL ?_))
  refine pcond_b rfl (fun h3 => ?_) (fun h3 => ?_)
  · have h3' : T.kind = 3 := by simpa using h3
    rw [if_pos h3'] at hQ
    refine gor hL ?_; (repeat (clear hL; intro t hL; refine gor hL ?_))
    refine po_cp (C37 v.f) ?_
    refine gor hL ?_; (repeat (clear hL; intro t hL; refine gor hL ?_))
    refine po_appA hL (rowsI_len out) ?_ ?_; (· simp; omega); clear hL; intro v1 t f1 hL; obtain ⟨f1_r, f1_w, f1_w1, f1_c, f1_s, f1_d⟩ := id f1
    rw [rowsI_app] at hL
    refine gor hL ?_; (repeat (clear hL; intro t hL; refine gor hL ?_))
    rw [← hQ]
    exact pfinK v1 rfl (.inl rfl) hL
  have n3 : ¬ T.kind = 3 := by simpa using h3
  rw [if_neg n3] at hQ
  refine gor hL ?_; (repeat (clear hL; intro t hL; refine gor hL ?_))
  refine pcond_b rfl (fun h4 => ?_) (fun h4 => ?_)
  · have h4' : T.kind = 4 := by simpa using h4
    rw [if_pos h4'] at hQ
    refine gor hL ?_; (repeat (clear hL; intro t hL; refine gor hL ?_))
    refine po_appA hL (rowsI_len out) ?_ ?_; (· simp; omega); clear hL; intro v1 t f1 hL; obtain ⟨f1_r, f1_w, f1_w1, f1_c, f1_s, f1_d⟩ := id f1
    rw [rowsI_app] at hL
    refine gor hL ?_; (repeat (clear hL; intro t hL; refine gor hL ?_))
    rw [← hQ]
    exact pfinK v1 rfl (.inl rfl) hL
  have n4 : ¬ T.kind = 4 := by simpa using h4
  rw [if_neg n4] at hQ
  refine gor hL ?_; (repeat (clear hL; intro t hL; refine gor hL ?_))
  refine pcond_b rfl (fun h5 => ?_) (fun h5 => ?_)
  · have h5' : T.kind = 5 := by simpa using h5
    rw [if_pos h5'] at hQ
    obtain ⟨_, _, ho1, hall⟩ := is_5 h5' his
    obtain ⟨y, hy, hym⟩ := elem_at (l := T.of) (k := 0) (by omega)
    have hg : T.of.getD 0 (.mk 0 0 [] []) = y := by rw [List.getD_eq_getElem?_getD, hy]; rfl
    rw [hg] at hQ hall
    have hyf := ((KT.fit_eq T).1 hT).2.2 _ hym
    have hvl := hv.len
    refine gor hL ?_; (repeat (clear hL; intro t hL; refine gor hL ?_))
    refine po_appA hL (rowsI_len out) ?_ ?_; (· simp; omega); clear hL; intro v1 t f1 hL; obtain ⟨f1_r, f1_w, f1_w1, f1_c, f1_s, f1_d⟩ := id f1
    rw [rowsI_app] at hL
    refine gor hL ?_; (repeat (clear hL; intro t hL; refine gor hL ?_))
    have hfl : ∀ k, (v.of.take k |>.foldl (fun o x => walkM most d y x o) (out ++ [(v.of.length : Int)])).length ≤ out.length + 1 + ((v.of.take k).map VT.count).sum := fun k => by
      have := foldl_len (f := fun o x => walkM most d y x o) (o := out ++ [(v.of.length : Int)]) (xs := v.of.take k) fun x hx o => walkM_len most d y x o (hall x (List.mem_of_mem_take hx))
      simpa using this
    (apply prangeJ (v.of.length) (by omega) (fun k t => ∃ a, Lay st [.box pq [a], .vec a (rowsI (v.of.take k |>.foldl (fun o x => walkM most d y x o) (out ++ [(v.of.length : Int)]))) 1, .box pm [.d (.int .i64 most)], .box pw [.d (.fn 36 [] [.ptr pq 0, .ptr pm 0, .ptr pw 0])], .box p6 [.d (.int .i64 v.n), .d (.flt .f64 v.f), .d (.str v.s), .d (.sl (v.of.map VT.row))], .box p5 [.d (.int .u8 T.kind), .d (.int .i64 T.most), .d (.sl (T.names.map fun s => [.str s])), .d (.sl (T.of.map KT.row))]] t)); (· exact trimA); (· exact fun _ => rfl)
    · exact ⟨v1, hL.pk⟩
    · rintro t ⟨a, hL⟩
      rw [List.take_length] at hL
      refine gor hL ?_; (repeat (clear hL; intro t hL; refine gor hL ?_))
      rw [← hQ]
      exact pfinK a rfl (.inl rfl) hL
    · rintro k hk t ⟨a, hL⟩
      obtain ⟨x, hx, hxm⟩ := elem_at hk
      have hsn := take_snoc hx
      have hcs : ((v.of.take k).map VT.count).sum + x.count ≤ (v.of.map VT.count).sum := by
        have : (v.of.take (k + 1)).map VT.count = (v.of.take k).map VT.count ++ [x.count] := by rw [hsn, List.map_append]; rfl
        have h2 : ((v.of.take (k + 1)).map VT.count).sum ≤ (v.of.map VT.count).sum := by
          conv => rhs; rw [← List.take_append_drop (k + 1) v.of, List.map_append, List.sum_append]
          omega
        rw [this, List.sum_append, List.sum_singleton] at h2
        exact h2
      have hfk := hfl k
      refine pblock ?_
      (refine gor hL ?_; (repeat (clear hL; intro t hL; refine gor hL ?_))); (with_reducible refine po_allocL hL rfl ?_); clear hL; intro p8 t hL
      refine gor hL ?_; (repeat (clear hL; intro t hL; refine gor hL ?_))
      have hi := ih y x _ a (hall x hxm) hyf (hv.part hxm) (show (v.of.take k |>.foldl (fun o x => walkM most d y x o) (out ++ [(v.of.length : Int)])).length + x.count < 2 ^ 40 by omega)
      rw [KT.av_eq, VT.av_eq] at hi
      refine po_callvK hL hi ?_
      clear hL; intro a' t hL
      refine gor hL ?_; (repeat (clear hL; intro t hL; refine gor hL ?_))
      refine ⟨⟨a', ?_⟩, tr2⟩
      rw [hsn, List.foldl_append]
      exact hL.pk
  have n5 : ¬ T.kind = 5 := by simpa using h5
  rw [if_neg n5] at hQ
  refine gor hL ?_; (repeat (clear hL; intro t hL; refine gor hL ?_))
  refine pcond_b rfl (fun h6 => ?_) (fun h6 => ?_)
  · have h6' : T.kind = 6 := by simpa using h6
    rw [if_pos h6'] at hQ
    obtain ⟨_, ho1, hall⟩ := is_6 h6' his
    have hvl := hv.len
    refine gor hL ?_; (repeat (clear hL; intro t hL; refine gor hL ?_))
    (apply prangeJ (v.of.length) (by omega) (fun k t => ∃ a, Lay st [.box pq [a], .vec a (rowsI (foldZ (walkM most d) (T.of.take k) (v.of.take k) out)) 1, .box pm [.d (.int .i64 most)], .box pw [.d (.fn 36 [] [.ptr pq 0, .ptr pm 0, .ptr pw 0])], .box p6 [.d (.int .i64 v.n), .d (.flt .f64 v.f), .d (.str v.s), .d (.sl (v.of.map VT.row))], .box p5 [.d (.int .u8 T.kind), .d (.int .i64 T.most), .d (.sl (T.names.map fun s => [.str s])), .d (.sl (T.of.map KT.row))]] t)); (· exact trimA); (· exact fun _ => rfl)
    · exact ⟨v0, hL.pk⟩
    · rintro t ⟨a, hL⟩
      have e : T.of.take v.of.length = T.of := by rw [ho1, List.take_length]
      rw [List.take_length, e] at hL
      refine gor hL ?_; (repeat (clear hL; intro t hL; refine gor hL ?_))
      rw [← hQ]
      exact pfinK a rfl (.inl rfl) hL
    · rintro k hk t ⟨a, hL⟩
      obtain ⟨x, hx, hxm⟩ := elem_at hk
      obtain ⟨y, hy, hym⟩ := elem_at (l := T.of) (k := k) (by omega)
      have hyf := ((KT.fit_eq T).1 hT).2.2 _ hym
      have hsn := take_snoc hx
      have hcs : ((v.of.take k).map VT.count).sum + x.count ≤ (v.of.map VT.count).sum := by
        have : (v.of.take (k + 1)).map VT.count = (v.of.take k).map VT.count ++ [x.count] := by rw [hsn, List.map_append]; rfl
        have h2 : ((v.of.take (k + 1)).map VT.count).sum ≤ (v.of.map VT.count).sum := by
          conv => rhs; rw [← List.take_append_drop (k + 1) v.of, List.map_append, List.sum_append]
          omega
        rw [this, List.sum_append, List.sum_singleton] at h2
        exact h2
      have hfk := foldZ_lenI (e := VT.is d) (f := walkM most d) (fun t x hx o => walkM_len most d t x o hx) (ts := T.of.take k) (xs := v.of.take k) (o := out) (allZip_take hall k)
      refine pblock ?_
      (refine gor hL ?_; (repeat (clear hL; intro t hL; refine gor hL ?_))); (with_reducible refine po_allocL hL rfl ?_); clear hL; intro p8 t hL
      refine gor hL ?_; (repeat (clear hL; intro t hL; refine gor hL ?_))
      have hi := ih y x _ a (allZip_get hall k y x hy hx) hyf (hv.part hxm) (show (foldZ (walkM most d) (T.of.take k) (v.of.take k) out).length + x.count < 2 ^ 40 by omega)
      rw [KT.av_eq, VT.av_eq] at hi
      refine po_callvK hL hi ?_
      clear hL; intro a' t hL
      refine gor hL ?_; (repeat (clear hL; intro t hL; refine gor hL ?_))
      refine ⟨⟨a', ?_⟩, tr2⟩
      rw [foldZ_take _ _ _ _ k y x hy hx]
      exact hL.pk
  have n6 : ¬ T.kind = 6 := by simpa using h6
  rw [if_neg n6] at hQ
  refine gor hL ?_; (repeat (clear hL; intro t hL; refine gor hL ?_))
  refine pcond_b rfl (fun h8 => ?_) (fun h8 => ?_)
  · have h8' : T.kind = 8 := by simpa using h8
    rw [if_pos h8'] at hQ
    obtain ⟨⟨hn1, hn2, hn3⟩, hix⟩ := is_8 h8' his
    obtain ⟨k, hk⟩ : ∃ k : Nat, v.n = k := ⟨v.n.toNat, by omega⟩
    obtain ⟨y, hy, hym⟩ := elem_at (l := T.of) (k := k) (by omega)
    obtain ⟨x, hx, hxm⟩ := elem_at (l := v.of) (k := 0) (by omega)
    have hg : T.of.getD v.n.toNat (.mk 0 0 [] []) = y := by rw [hk, Int.toNat_natCast, List.getD_eq_getElem?_getD, hy]; rfl
    have hg' : v.of.getD 0 VT.zero = x := by rw [List.getD_eq_getElem?_getD, hx]; rfl
    rw [hg, hg'] at hQ hix
    have hyf := ((KT.fit_eq T).1 hT).2.2 _ hym
    have hxc := VT.count_part hxm
    refine gor hL ?_; (repeat (clear hL; intro t hL; refine gor hL ?_))
    refine po_appA hL (rowsI_len out) ?_ ?_; (· simp; omega); clear hL; intro v1 t f1 hL; obtain ⟨f1_r, f1_w, f1_w1, f1_c, f1_s, f1_d⟩ := id f1
    rw [rowsI_app] at hL
    refine gor hL ?_; (repeat (clear hL; intro t hL; refine gor hL ?_))
    rw [hk] at hL hQ
    refine gnm ?_; rw [hk]
    refine gor hL ?_; (repeat (clear hL; intro t hL; refine gor hL ?_))
    have hi := ih y x (out ++ [(k : Int)]) v1 hix hyf (hv.part hxm) (by simp; omega)
    rw [KT.av_eq, VT.av_eq] at hi
    refine po_callvK hL hi ?_
    clear hL; intro a' t hL
    refine gor hL ?_; (repeat (clear hL; intro t hL; refine gor hL ?_))
    rw [← hQ]
    exact pfinK a' rfl (.inl rfl) hL
  have n8 : ¬ T.kind = 8 := by simpa using h8
  rw [if_neg n8] at hQ
  refine gor hL ?_; (repeat (clear hL; intro t hL; refine gor hL ?_))
  refine po_appA hL (rowsI_len out) ?_ ?_; (· simp; omega); clear hL; intro v1 t f1 hL; obtain ⟨f1_r, f1_w, f1_w1, f1_c, f1_s, f1_d⟩ := id f1
  rw [rowsI_app] at hL
  refine gor hL ?_; (repeat (clear hL; intro t hL; refine gor hL ?_))
  rw [← hQ]
  exact pfinK v1 rfl (.inl rfl) hL

theorem C16 (most : Int) (T : KT) (v : VT) (hT : T.fit) (hv : v.fit) (hc : VT.is 20 T v = true → v.count < 2 ^ 40) : Pure (PCalls Try.prog GG) 16 [T.av, v.av, .d (.int .i64 most)] (.d (i64s (flatM most T v))) := by
  have hC := C27 T v hT hv
  have hW := fun pq pm pw h h1 => walkC most pq pm pw h 20 T v [] (.full []) h1 hT hv (by simpa using hc h1)
  simp only [KT.av_eq, VT.av_eq, wF, capW] at hC hW ⊢
  intro st; refine pcalls_of k16 e16 (of_decide_eq_true rfl) ?_; dsimp only [c16]; refine pstartL ?_; intro t hL; generalize hQ : pfin _ _ = Q
  (refine gor hL ?_; (repeat (clear hL; intro t hL; refine gor hL ?_))); refine po_boxA hL ?_; clear hL; intro p3 t hL
  (refine gor hL ?_; (repeat (clear hL; intro t hL; refine gor hL ?_))); refine po_boxA hL ?_; clear hL; intro p4 t hL
  (refine gor hL ?_; (repeat (clear hL; intro t hL; refine gor hL ?_))); refine po_boxA hL ?_; clear hL; intro p5 t hL
  (refine gor hL ?_; (repeat (clear hL; intro t hL; refine gor hL ?_))); (with_reducible refine po_allocL hL rfl ?_); clear hL; intro p7 t hL
  refine gor hL ?_; (repeat (clear hL; intro t hL; refine gor hL ?_))
  (refine gor hL ?_; (repeat (clear hL; intro t hL; refine gor hL ?_))); (with_reducible refine po_allocL hL rfl ?_); clear hL; intro p8 t hL
  refine gor hL ?_; (repeat (clear hL; intro t hL; refine gor hL ?_))
  refine pjoin (fun s u => ∃ a l, VF a (rowsI l) ∧ l = (if VT.is 20 T v = true then walkM most 20 T v [] else []) ∧ s = put (put (fun _ => .undef) (some 7) (ptrAt p7)) (some 5) (ptrAt p5) ∧ Lay st [.box p7 [a], .box p5 [.d (.int .i64 most)]] u) ?_ ?_
  · refine gor hL ?_; (repeat (clear hL; intro t hL; refine gor hL ?_))
    refine po_c0 (hC) ?_
    refine gor hL ?_; (repeat (clear hL; intro t hL; refine gor hL ?_))
    refine pcond_b rfl (fun h => ?_) (fun h => ?_)
    · have h' : VT.is 20 T v = true := by
        unfold VT.checkE at h
        split at h
        · assumption
        · simp at h
      refine gor hL ?_; (repeat (clear hL; intro t hL; refine gor hL ?_))
      have hnd : [p7, p5, p8].Nodup := by
        have h1 := hL.apart
        simp [Item.blk] at h1
        simp
        omega
      replace hL := hL.full [] 1
      refine po_callvK hL (hW p7 p5 p8 hnd h') ?_
      clear hL; intro a t hL
      have fa := hL.vk a
      refine gor hL ?_; (repeat (clear hL; intro t hL; refine gor hL ?_))
      refine ⟨a, _, fa, by rw [if_pos h'], tr2, hL.pk⟩
    · have h' : ¬ VT.is 20 T v = true := by
        unfold VT.checkE at h
        split at h
        · simp at h
        · assumption
      refine gor hL ?_; (repeat (clear hL; intro t hL; refine gor hL ?_))
      exact ⟨_, [], .full [], by rw [if_neg h'], tr2, hL.pk⟩
  rintro s t ⟨a, l, fa, hl, rfl, hL⟩
  obtain ⟨fa_r, fa_w, fa_w1, fa_c, fa_s, fa_d⟩ := id fa
  refine gor hL ?_; (repeat (clear hL; intro t hL; refine gor hL ?_))
  have e1 : (if False then if (if True then if (0 : Int) > most then 0 else most else if 0 < most then 0 else most) > (l.length : Int) then if True then if (0 : Int) > most then 0 else most else if 0 < most then 0 else most else (l.length : Int) else if (if True then if (0 : Int) > most then 0 else most else if 0 < most then 0 else most) < (l.length : Int) then if True then if (0 : Int) > most then 0 else most else if 0 < most then 0 else most else (l.length : Int)) = ((min l.length (max most 0).toNat : Nat) : Int) := by
    simp only [if_true, if_false]
    repeat' split
    all_goals omega
  refine gnm ?_; rw [e1]
  refine po rfl (slc_rowsV fa rfl rfl (by rw [List.length_map]; omega)) ?_
  refine gor hL ?_; (repeat (clear hL; intro t hL; refine gor hL ?_))
  rw [← hQ]
  have hfm : flatM most T v = l.take (min l.length (max most 0).toNat) := by
    rw [flatM, hl]
    split
    · rw [Nat.min_comm, ← List.take_take, List.take_length]
    · simp
  rw [hfm]
  refine pfin_weak (u := _) rfl ?_ hL.le
  show AV.weak (if _ then _ else _) = _
  rw [i64s, List.map_take]
  split
  · rename_i e
    rw [fa_w, e, List.take_length]
  · rfl
end Go.Pv
