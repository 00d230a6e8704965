/- Functions of the program, by value. No condition. -/
import Derived.Test.YtmcdhendjlijhaaV1
import Derived.Test.YtmcdhendjlijhaaE1
import Derived.Test.YtmcdhendjlijhaaP26
namespace Go.Pv
open Go.Proofs
set_option maxRecDepth 100000
set_option maxHeartbeats 4000000

/-- prompter/value.within -/
abbrev c42_3 : PCode :=
 (.region [⟨(.some 11), (.mov (.t 5)), .none⟩,
   ⟨(.some 12), (.mov (.t 1)), .none⟩,
   ⟨(.some 13), (.bin .add (.t 11) (.t 12)), .none⟩,
   ⟨(.some 5), (.mov (.t 13)), .none⟩])
abbrev c42_2 : PCode :=
 (.cond (.t 10)
  c42_3
  .skip)
abbrev c42_4 : PCode :=
 (.keep [5] (.seq (.region [⟨(.some 14), (.mov (.t 5)), .none⟩,
   ⟨(.some 4), (.mov (.t 14)), .none⟩])
 .ret))
abbrev c42_1 : PCode :=
 (.keep [1, 5] (.seq (.seq (.region [⟨(.some 9), (.mov (.t 5)), .none⟩,
   ⟨(.some 10), (.bin .lss (.t 9) (.c (.d (.int .i64 0)))), .none⟩])
 c42_2)
 c42_4))
abbrev c42_0 : PCode :=
 (.seq (.region [⟨(.some 6), (.mov (.t 0)), .none⟩,
   ⟨(.some 7), (.mov (.t 1)), .none⟩,
   ⟨(.some 8), (.bin .rem (.t 6) (.t 7)), .none⟩,
   ⟨(.some 5), (.mov (.t 8)), .none⟩])
 c42_1)
def c42 : PFun := ⟨
 (.seq (.region [⟨(.some 4), (.mov (.c (.d (.int .i64 0)))), .none⟩])
 c42_0),
 2, 15, [(.tmp 4)]⟩

/-- prompter/value.Build$1 -/
abbrev c40_2 : PCode :=
 (.seq (.region [⟨(.some 2), (.mov (.c (.d (.int .i64 0)))), .none⟩])
 .ret)
abbrev c40_1 : PCode :=
 (.cond (.t 5)
  c40_2
  .skip)
abbrev c40_4 : PCode :=
 (.keep [0, 1] (.seq (.region [⟨(.some 8), (.load .false 1 (.t 0) .false), .none⟩,
   ⟨(.some 9), (.load .false 1 (.t 1) .false), .none⟩,
   ⟨(.some 10), (.bin .sub (.t 9) (.c (.d (.int .i64 1)))), .none⟩,
   ⟨(.some 11), (.load .false 1 (.t 0) .false), .none⟩,
   ⟨(.some 12), (.len (.t 11)), .none⟩,
   ⟨(.some 13), (.bin .rem (.t 10) (.t 12)), .none⟩,
   ⟨(.some 14), (.iaddr 1 (.t 8) (.t 13)), .none⟩,
   ⟨(.some 15), (.load .false 1 (.t 14) .false), .none⟩,
   ⟨(.some 2), (.mov (.t 15)), .none⟩])
 .ret))
abbrev c40_3 : PCode :=
 (.keep [0, 1] (.seq (.region [⟨(.some 6), (.load .false 1 (.t 1) .false), .none⟩,
   ⟨(.some 7), (.bin .add (.t 6) (.c (.d (.int .i64 1)))), .none⟩,
   ⟨.none, (.store 1 (.t 1) (.t 7)), .none⟩])
 c40_4))
abbrev c40_0 : PCode :=
 (.seq (.seq (.region [⟨(.some 3), (.load .false 1 (.t 0) .false), .none⟩,
   ⟨(.some 4), (.len (.t 3)), .none⟩,
   ⟨(.some 5), (.bin .eql (.t 4) (.c (.d (.int .i64 0)))), .none⟩])
 c40_1)
 c40_3)
def c40 : PFun := ⟨
 (.seq (.region [⟨(.some 2), (.mov (.c (.d (.int .i64 0)))), .none⟩])
 c40_0),
 2, 16, [(.tmp 2)]⟩

theorem e42 : entered Try.prog 42 = true := by kernel_rfl
theorem k42 : compFun Try.prog (fun _ => 0) 42 = some c42.er := by kernel_rfl
theorem e40 : entered Try.prog 40 = true := by kernel_rfl
theorem k40 : compFun Try.prog (fun _ => 0) 40 = some c40.er := by kernel_rfl


theorem emod_of {n m : Int} (hm : 0 < m) : (if n.tmod m < 0 then n.tmod m + m else n.tmod m) = n % m := by
  have h1 : n = m * n.tdiv m + n.tmod m := (Int.mul_tdiv_add_tmod n m).symm
  have h2 := Int.tmod_lt_of_pos n hm
  have h3 : -m < n.tmod m := by
    have := Int.tmod_lt_of_pos (-n) hm
    rw [Int.neg_tmod] at this
    omega
  have h4 : n % m = n.tmod m % m := by
    conv => lhs; rw [h1]
    rw [Int.add_comm, Int.add_mul_emod_self_left]
  rw [h4]
  split
  · rw [← Int.add_emod_right, Int.emod_eq_of_lt (by omega) (by omega)]
  · rw [Int.emod_eq_of_lt (by omega) h2]

theorem C42 (n m : Int) (_hn : -9223372036854775808 ≤ n ∧ n ≤ 9223372036854775807) (hm : 0 < m ∧ m ≤ 9223372036854775807) : Pure (PCalls Try.prog GG) 42 [.d (.int .i64 n), .d (.int .i64 m)] (.d (.int .i64 (n % m))) := by
  have he := emod_of (n := n) hm.1
  have h2 := Int.tmod_lt_of_pos n hm.1
  have h3 : -m < n.tmod m := by
    have := Int.tmod_lt_of_pos (-n) hm.1
    rw [Int.neg_tmod] at this
    omega
  intro st; refine pcalls_of k42 e42 (of_decide_eq_true rfl) ?_; dsimp only [c42]; refine pstartL ?_; intro t hL; generalize hQ : pfin _ _ = Q
  refine gor hL ?_; (repeat (clear hL; intro t hL; refine gor hL ?_))
  refine po_rem rfl rfl (by omega) ?_
  refine gor hL ?_; (repeat (clear hL; intro t hL; refine gor hL ?_))
  refine pjoin (fun s u => s = put (fun _ => .undef) (some 5) (.d (.int .i64 (n % m))) ∧ u = t) ?_ ?_
  · refine gor hL ?_; (repeat (clear hL; intro t hL; refine gor hL ?_))
    refine pcond_b rfl (fun h => ?_) (fun h => ?_)
    · have h' : n.tmod m < 0 := by simpa using h
      rw [if_pos h'] at he
      refine gor hL ?_; (repeat (clear hL; intro t hL; refine gor hL ?_))
      refine gnm ?_; rw [IntWalk.i64_in (n.tmod m + m) (by omega), he]
      refine gor hL ?_; (repeat (clear hL; intro t hL; refine gor hL ?_))
      exact ⟨tr2, trivial⟩
    · have h' : ¬ n.tmod m < 0 := by simpa using h
      rw [if_neg h'] at he
      refine gnm ?_; rw [he]
      refine gor hL ?_; (repeat (clear hL; intro t hL; refine gor hL ?_))
      exact ⟨tr2, trivial⟩
  · rintro s u ⟨rfl, rfl⟩
    refine gor hL ?_; (repeat (clear hL; intro t hL; refine gor hL ?_))
    rw [← hQ]
    exact pfin_pure rfl hL.le

def capN (pl pa : Nat) : AV := .d (.fn 40 [] [.ptr pl 0, .ptr pa 0])
theorem nextC (l : List Int) (hl : l.length < 2 ^ 40) (at_ : Nat) (ha : at_ < 2 ^ 61) (pl pa : Nat) (hne : pl ≠ pa) :
    CL (PCalls Try.prog GG) 40 [ptrAt pl, ptrAt pa] [.box pl [.d (i64s l)], .box pa [i64 at_]] (fun _ : Unit => .d (.int .i64 (nextN l at_))) (fun _ => [.box pl [.d (i64s l)], .box pa [i64 (nextA l at_)]]) := by
  refine ⟨?_, ?_⟩
  · intro N
    refine ⟨(), fun x hx => ?_, ?_⟩
    · simp only [List.mem_cons, List.not_mem_nil, or_false] at hx
      rcases hx with rfl | rfl
      · exact .inl ⟨_, List.mem_cons_self, _, rfl⟩
      · exact .inl ⟨_, List.mem_cons_of_mem _ List.mem_cons_self, _, rfl⟩
    · simp [Item.blk, Ne.symm hne]
  intro st t hL; refine pcalls_of k40 e40 (of_decide_eq_true rfl) ?_; dsimp only [c40]; generalize hQ : pfin _ _ = Q
  refine gor hL ?_; (repeat (clear hL; intro t hL; refine gor hL ?_))
  refine pcond_b rfl (fun h => ?_) (fun h => ?_)
  · have h' : l.length = 0 := by simpa using h
    refine gor hL ?_; (repeat (clear hL; intro t hL; refine gor hL ?_))
    rw [← hQ]
    have e1 : nextN l at_ = 0 := by rw [nextN, if_pos h']
    have e2 : nextA l at_ = at_ := by rw [nextA, if_pos h']
    rw [e1, e2]
    exact pfinK () rfl (.inl rfl) hL
  have h' : l.length ≠ 0 := by simpa using h
  have hlt : at_ % l.length < l.length := Nat.mod_lt _ (by omega)
  have hy : l[at_ % l.length]? = some (nextN l at_) := by
    rw [nextN, if_neg h', List.getD_eq_getElem?_getD, List.getElem?_eq_getElem hlt]; rfl
  have e2 : nextA l at_ = at_ + 1 := by rw [nextA, if_neg h']
  refine gor hL ?_; (repeat (clear hL; intro t hL; refine gor hL ?_))
  refine gnm ?_; rw [IntWalk.i64_in ((at_ : Int) + 1) (by omega), show ((at_ : Int) + 1 - 1) = at_ by omega, IntWalk.i64_in (at_ : Int) (by omega)]
  rw [IntWalk.i64_in ((at_ : Int) + 1) (by omega)] at hL
  refine po_remN rfl rfl h' ?_
  refine gor hL ?_; (repeat (clear hL; intro t hL; refine gor hL ?_))
  rw [← hQ]
  rw [e2]
  exact pfinK () rfl (.inl rfl) hL
end Go.Pv
