/- Functions of the program, by value. No condition. -/
import Derived.Test.YtmcdhendjlijhaaE1
import Derived.Test.YtmcdhendjlijhaaP26
import Derived.Test.YtmcdhendjlijhaaR1
import Derived.Test.YtmcdhendjlijhaaV4
namespace Go.Pv
open Go.Proofs
set_option maxRecDepth 100000
set_option maxHeartbeats 4000000

/-- prompter/real.Bits -/
abbrev c47_2 : PCode :=
 (.seq (.region [⟨(.some 2), (.mov (.c (.d (.int .u64 9221120237041090560)))), .none⟩])
 .ret)
abbrev c47_1 : PCode :=
 (.cond (.t 5)
  c47_2
  .skip)
abbrev c47_3 : PCode :=
 (.keep [0] (.seq (.region [⟨(.some 6), (.mov (.t 0)), .none⟩,
   ⟨(.some 7), (.nat 0 (.t 6)), .none⟩,
   ⟨(.some 2), (.mov (.t 7)), .none⟩])
 .ret))
abbrev c47_0 : PCode :=
 (.seq (.seq (.region [⟨(.some 3), (.mov (.t 0)), .none⟩,
   ⟨(.some 4), (.mov (.t 0)), .none⟩,
   ⟨(.some 5), (.bin .neq (.t 3) (.t 4)), .none⟩])
 c47_1)
 c47_3)
def c47 : PFun := ⟨
 (.seq (.region [⟨(.some 2), (.mov (.c (.d (.int .u64 0)))), .none⟩])
 c47_0),
 1, 8, [(.tmp 2)]⟩

/-- prompter/real.Same -/
abbrev c38_0 : PCode :=
 (.seq (.region [⟨(.some 5), (.mov (.t 0)), .none⟩,
   ⟨(.some 6), (.call0 47 [(.t 5)]), .none⟩,
   ⟨(.some 7), (.mov (.t 1)), .none⟩,
   ⟨(.some 8), (.call0 47 [(.t 7)]), .none⟩,
   ⟨(.some 9), (.bin .eql (.t 6) (.t 8)), .none⟩,
   ⟨(.some 4), (.mov (.t 9)), .none⟩])
 .ret)
def c38 : PFun := ⟨
 (.seq (.region [⟨(.some 4), (.mov (.c (.d (.bool .false)))), .none⟩])
 c38_0),
 2, 10, [(.tmp 4)]⟩

/-- slices.EqualFunc[[]prompter/value.Value,[]prompter/value.Value,prompter/value.Value,prompter/value.Value] -/
abbrev c39_2 : PCode :=
 (.seq (.region [⟨(.some 6), (.mov (.c (.d (.bool .false)))), .none⟩])
 .ret)
abbrev c39_1 : PCode :=
 (.cond (.t 14)
  c39_2
  .skip)
abbrev c39_9 : PCode :=
 (.seq (.region [⟨(.some 6), (.mov (.c (.d (.bool .false)))), .none⟩])
 .ret)
abbrev c39_8 : PCode :=
 (.cond (.t 30)
  c39_9
  .skip)
abbrev c39_7 : PCode :=
 (.keep [1, 2, 8, 9, 15, 16, 17] (.seq (.region [⟨(.some 26), (.mov (.t 2)), .none⟩,
   ⟨(.some 27), (.load .true 4 (.t 8) .false), .none⟩,
   ⟨(.some 28), (.load .true 4 (.t 9) .false), .none⟩,
   ⟨(.some 29), (.callv0 (.t 26) [(.t 27), (.t 28)]), .none⟩,
   ⟨(.some 30), (.not (.t 29)), .none⟩])
 c39_8))
abbrev c39_6 : PCode :=
 (.keep [1, 2, 7, 8, 15, 16, 17] (.seq (.region [⟨(.some 22), (.mov (.t 1)), .none⟩,
   ⟨(.some 23), (.mov (.t 7)), .none⟩,
   ⟨(.some 24), (.iaddr 4 (.t 22) (.t 23)), .none⟩,
   ⟨(.some 25), (.load .true 4 (.t 24) .false), .none⟩,
   ⟨(.some 9), (.alloc [(.d (.int .i64 0)), (.d (.flt .f64 0)), (.d (.str (bs []))), (.full [])]), .none⟩,
   ⟨.none, (.store 4 (.t 9) (.t 25)), .none⟩])
 c39_7))
abbrev c39_5 : PCode :=
 (.block 1 (.seq (.region [⟨(.some 19), (.mov (.t 17)), .none⟩,
   ⟨(.some 20), (.iaddr 4 (.t 15) (.t 17)), .none⟩,
   ⟨(.some 21), (.load .true 4 (.t 20) .false), .none⟩,
   ⟨(.some 8), (.alloc [(.d (.int .i64 0)), (.d (.flt .f64 0)), (.d (.str (bs []))), (.full [])]), .none⟩,
   ⟨(.some 7), (.mov (.t 19)), .none⟩,
   ⟨.none, (.store 4 (.t 8) (.t 21)), .none⟩])
 c39_6))
abbrev c39_4 : PCode :=
 (.keep [1, 2, 15, 16, 17] (.block 0 (.loop (.some [17, 1, 2, 15, 16]) (.seq (.region [⟨(.some 18), (.bin .lss (.t 17) (.t 16)), .none⟩])
 (.seq (.cond (.t 18)
  .skip
  (.exit 0))
 (.seq c39_5
 (.region [⟨(.some 31), (.bin .add (.t 17) (.c (.d (.int .i64 1)))), .none⟩,
   ⟨(.some 17), (.mov (.t 31)), .none⟩])))))))
abbrev c39_10 : PCode :=
 (.seq (.region [⟨(.some 6), (.mov (.c (.d (.bool .true)))), .none⟩])
 .ret)
abbrev c39_3 : PCode :=
 (.keep [0, 1, 2] (.seq (.seq (.region [⟨(.some 15), (.mov (.t 0)), .none⟩,
   ⟨(.some 16), (.len (.t 15)), .none⟩,
   ⟨(.some 17), (.mov (.c (.d (.int .i64 0)))), .none⟩])
 c39_4)
 c39_10))
abbrev c39_0 : PCode :=
 (.seq (.seq (.region [⟨(.some 10), (.mov (.t 0)), .none⟩,
   ⟨(.some 11), (.len (.t 10)), .none⟩,
   ⟨(.some 12), (.mov (.t 1)), .none⟩,
   ⟨(.some 13), (.len (.t 12)), .none⟩,
   ⟨(.some 14), (.bin .neq (.t 11) (.t 13)), .none⟩])
 c39_1)
 c39_3)
def c39 : PFun := ⟨
 (.seq (.region [⟨(.some 6), (.mov (.c (.d (.bool .false)))), .none⟩])
 c39_0),
 3, 32, [(.tmp 6)]⟩

/-- prompter/value.Same -/
abbrev c17_0 : PCode :=
 (.keep [2, 3] (.seq (.region [⟨(.some 5), (.faddr 0 (.t 2)), .none⟩,
   ⟨(.some 6), (.load .false 1 (.t 5) .false), .none⟩,
   ⟨(.some 7), (.faddr 0 (.t 3)), .none⟩,
   ⟨(.some 8), (.load .false 1 (.t 7) .false), .none⟩,
   ⟨(.some 9), (.bin .eql (.t 6) (.t 8)), .none⟩,
   ⟨(.some 10), (.mov (.t 9)), .none⟩,
   ⟨(.some 11), (.faddr 1 (.t 2)), (.some (10, .true))⟩,
   ⟨(.some 12), (.load .false 1 (.t 11) .false), (.some (10, .true))⟩,
   ⟨(.some 13), (.faddr 1 (.t 3)), (.some (10, .true))⟩,
   ⟨(.some 14), (.load .false 1 (.t 13) .false), (.some (10, .true))⟩,
   ⟨(.some 15), (.call0 38 [(.t 12), (.t 14)]), (.some (10, .true))⟩,
   ⟨(.some 16), (.pick (.t 10) (.t 15) (.c (.d (.bool .false)))), .none⟩,
   ⟨(.some 17), (.mov (.t 16)), .none⟩,
   ⟨(.some 18), (.faddr 2 (.t 2)), (.some (17, .true))⟩,
   ⟨(.some 19), (.load .false 1 (.t 18) .false), (.some (17, .true))⟩,
   ⟨(.some 20), (.faddr 2 (.t 3)), (.some (17, .true))⟩,
   ⟨(.some 21), (.load .false 1 (.t 20) .false), (.some (17, .true))⟩,
   ⟨(.some 22), (.bin .eql (.t 19) (.t 21)), (.some (17, .true))⟩,
   ⟨(.some 23), (.pick (.t 17) (.t 22) (.c (.d (.bool .false)))), .none⟩,
   ⟨(.some 24), (.mov (.t 23)), .none⟩,
   ⟨(.some 25), (.faddr 3 (.t 2)), (.some (24, .true))⟩,
   ⟨(.some 26), (.load .false 1 (.t 25) .false), (.some (24, .true))⟩,
   ⟨(.some 27), (.faddr 3 (.t 3)), (.some (24, .true))⟩,
   ⟨(.some 28), (.load .false 1 (.t 27) .false), (.some (24, .true))⟩,
   ⟨(.some 29), (.call0 39 [(.t 26), (.t 28), (.c (.d (.fn 17 [] [])))]), (.some (24, .true))⟩,
   ⟨(.some 30), (.pick (.t 24) (.t 29) (.c (.d (.bool .false)))), .none⟩,
   ⟨(.some 4), (.mov (.t 30)), .none⟩])
 .ret))
def c17 : PFun := ⟨
 (.seq (.region [⟨(.some 2), (.box 4 (.t 0)), .none⟩,
   ⟨(.some 3), (.box 4 (.t 1)), .none⟩,
   ⟨(.some 4), (.mov (.c (.d (.bool .false)))), .none⟩])
 c17_0),
 2, 31, [(.tmp 4)]⟩

theorem e47 : entered Try.prog 47 = true := by kernel_rfl
theorem k47 : compFun Try.prog (fun _ => 0) 47 = some c47.er := by kernel_rfl
theorem e38 : entered Try.prog 38 = true := by kernel_rfl
theorem k38 : compFun Try.prog (fun _ => 0) 38 = some c38.er := by kernel_rfl
theorem e39 : entered Try.prog 39 = true := by kernel_rfl
theorem k39 : compFun Try.prog (fun _ => 0) 39 = some c39.er := by kernel_rfl
theorem e17 : entered Try.prog 17 = true := by kernel_rfl
theorem k17 : compFun Try.prog (fun _ => 0) 17 = some c17.er := by kernel_rfl


theorem C47 (b : Nat) : Pure (PCalls Try.prog GG) 47 [.d (.flt .f64 b)] (.d (.int .u64 (fbits b))) := by
  intro st; refine pcalls_of k47 e47 (of_decide_eq_true rfl) ?_; dsimp only [c47]; refine pstartL ?_; intro t hL; generalize hQ : pfin _ _ = Q
  refine gor hL ?_; (repeat (clear hL; intro t hL; refine gor hL ?_))
  refine pcond_b rfl (fun h => ?_) (fun h => ?_)
  · refine gor hL ?_; (repeat (clear hL; intro t hL; refine gor hL ?_))
    rw [← hQ]
    rw [fbits, if_pos h]
    exact pfin_pure rfl hL.le
  refine gor hL ?_; (repeat (clear hL; intro t hL; refine gor hL ?_))
  rw [← hQ]
  rw [fbits, if_neg (by rw [h]; decide)]
  exact pfin_pure rfl hL.le
theorem C38 (a b : Nat) : Pure (PCalls Try.prog GG) 38 [.d (.flt .f64 a), .d (.flt .f64 b)] (b2 (fbits a == fbits b)) := by
  intro st; refine pcalls_of k38 e38 (of_decide_eq_true rfl) ?_; dsimp only [c38]; refine pstartL ?_; intro t hL; generalize hQ : pfin _ _ = Q
  refine gor hL ?_; (repeat (clear hL; intro t hL; refine gor hL ?_))
  refine po_call rfl (C47 a) (fun _ _ h => False.elim h) ?_
  refine gor hL ?_; (repeat (clear hL; intro t hL; refine gor hL ?_))
  refine po_call rfl (C47 b) (fun _ _ h => False.elim h) ?_
  refine gor hL ?_; (repeat (clear hL; intro t hL; refine gor hL ?_))
  rw [← hQ]
  exact pfin_pure rfl hL.le
theorem C39 (g : FuncId) (e : VT → VT → Bool) (l k : List VT) (hl : l.length < 2 ^ 60) (hg : ∀ x ∈ l, ∀ y ∈ k, Pure (PCalls Try.prog GG) g [x.av, y.av] (b2 (e x y))) :
    Pure (PCalls Try.prog GG) 39 [.d (.sl (l.map VT.row)), .d (.sl (k.map VT.row)), .d (.fn g [] [])] (b2 (eqAll e l k)) := by
  intro st; refine pcalls_of k39 e39 (of_decide_eq_true rfl) ?_; dsimp only [c39]; refine pstartL ?_; intro t hL; generalize hQ : pfin _ _ = Q
  refine gor hL ?_; (repeat (clear hL; intro t hL; refine gor hL ?_))
  refine pcond_b rfl (fun h1 => ?_) (fun h1 => ?_)
  · have h1' : l.length ≠ k.length := by simp at h1; omega
    refine gor hL ?_; (repeat (clear hL; intro t hL; refine gor hL ?_))
    rw [← hQ]
    exact pfin_pure (by rw [eqAll_ne h1']; rfl) hL.le
  have h1' : l.length = k.length := by simp at h1; omega
  refine gor hL ?_; (repeat (clear hL; intro t hL; refine gor hL ?_))
  (apply prangeK hL (l.length) (by omega) (fun i => eqAll e l k = eqAll e (l.drop i) (k.drop i))); (· exact trimA); (· exact fun _ => rfl)
  · rfl
  · intro t hL hI
    rw [List.drop_length, h1', List.drop_length] at hI
    refine gor hL ?_; (repeat (clear hL; intro t hL; refine gor hL ?_))
    rw [← hQ]
    exact pfin_pure (by rw [hI]; rfl) hL.le
  · intro i hi t hL hI
    obtain ⟨x, hx, hxm⟩ := elem_at hi
    obtain ⟨y, hy, hym⟩ := elem_at (l := k) (k := i) (by omega)
    rw [eqAll_drop hx hy] at hI
    refine pblock ?_
    (refine gor hL ?_; (repeat (clear hL; intro t hL; refine gor hL ?_))); (with_reducible refine po_allocL hL rfl ?_); clear hL; intro p8 t hL
    refine gor hL ?_; (repeat (clear hL; intro t hL; refine gor hL ?_))
    (refine gor hL ?_; (repeat (clear hL; intro t hL; refine gor hL ?_))); (with_reducible refine po_allocL hL rfl ?_); clear hL; intro p9 t hL
    refine gor hL ?_; (repeat (clear hL; intro t hL; refine gor hL ?_))
    have hc := hg x hxm y hym
    rw [VT.av_eq, VT.av_eq] at hc
    refine po_callv rfl rfl (hc _) (fun _ _ h => False.elim h) ?_
    refine gor hL ?_; (repeat (clear hL; intro t hL; refine gor hL ?_))
    refine pcond_b rfl (fun h2 => ?_) (fun h2 => ?_)
    · have h2' : e x y = false := by simpa using h2
      refine gor hL ?_; (repeat (clear hL; intro t hL; refine gor hL ?_))
      rw [← hQ]
      exact pfin_pure (by rw [hI, h2']; rfl) hL.le
    have h2' : e x y = true := by simpa using h2
    refine gor hL ?_; (repeat (clear hL; intro t hL; refine gor hL ?_))
    refine ⟨hL.pk, ?_, tr2⟩
    rw [hI, h2']; rfl


theorem C17 (x : VT) : ∀ y : VT, x.fit → Pure (PCalls Try.prog GG) 17 [x.av, y.av] (b2 (VT.same x y)) := by
  induction x using VT.ind with
  | h n f s o ih =>
  intro y hf
  obtain ⟨_, _, _, hl, hfo⟩ := hf
  rw [VT.same_eq, VT.av_eq, VT.av_eq]
  simp only [VT.pj]
  have hE := C39 17 VT.same o y.of (by omega) (fun z hz w _ => ih z hz w (hfo z hz))
  intro st; refine pcalls_of k17 e17 (of_decide_eq_true rfl) ?_; dsimp only [c17]; refine pstartL ?_; intro t hL; generalize hQ : pfin _ _ = Q
  (refine gor hL ?_; (repeat (clear hL; intro t hL; refine gor hL ?_))); refine po_boxA hL ?_; clear hL; intro p2 t hL
  (refine gor hL ?_; (repeat (clear hL; intro t hL; refine gor hL ?_))); refine po_boxA hL ?_; clear hL; intro p3 t hL
  refine gor hL ?_; (repeat (clear hL; intro t hL; refine gor hL ?_))
  ((with_reducible apply po_g); (· exact gwt); (· (intro hw; refine does_call0 ?_ (C38 f y.f); exact gargs hw)))
  refine gor hL ?_; (repeat (clear hL; intro t hL; refine gor hL ?_))
  ((with_reducible apply po_g); (· exact gwt); (· (intro hw; refine does_call0 ?_ (hE); exact gargs hw)))
  refine gor hL ?_; (repeat (clear hL; intro t hL; refine gor hL ?_))
  rw [← hQ]
  exact pfin_pure rfl hL.le
end Go.Pv
