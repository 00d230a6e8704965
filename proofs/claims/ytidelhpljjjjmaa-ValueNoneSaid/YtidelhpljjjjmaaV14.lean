/- Functions of the program, by value. No condition. -/
import Derived.Test.YtidelhpljjjjmaaV12
import Derived.Test.YtidelhpljjjjmaaE1
namespace Go.Pv
open Go.Proofs
set_option maxRecDepth 100000
set_option maxHeartbeats 8000000

/-- prompter/prompterref08.next -/
abbrev c45_2 : PCode :=
 (.seq (.region [⟨(.some 4), (.mov (.c (.d (.int .i64 0)))), .none⟩])
 .ret)
abbrev c45_1 : PCode :=
 (.cond (.t 11)
  c45_2
  .skip)
abbrev c45_8 : PCode :=
 (.region [⟨(.some 40), (.mov (.t 5)), .none⟩,
   ⟨(.some 41), (.mov (.t 1)), .none⟩,
   ⟨(.some 42), (.bin .add (.t 40) (.t 41)), .none⟩,
   ⟨(.some 5), (.mov (.t 42)), .none⟩])
abbrev c45_7 : PCode :=
 (.cond (.t 39)
  c45_8
  .skip)
abbrev c45_9 : PCode :=
 (.keep [5] (.seq (.region [⟨(.some 43), (.mov (.t 5)), .none⟩,
   ⟨(.some 4), (.mov (.t 43)), .none⟩])
 .ret))
abbrev c45_6 : PCode :=
 (.keep [1, 5] (.seq (.seq (.region [⟨(.some 38), (.mov (.t 5)), .none⟩,
   ⟨(.some 39), (.bin .lss (.t 38) (.c (.d (.int .i64 0)))), .none⟩])
 c45_7)
 c45_9))
abbrev c45_5 : PCode :=
 (.keep [1, 5] (.seq (.region [⟨(.some 35), (.mov (.t 5)), .none⟩,
   ⟨(.some 36), (.mov (.t 1)), .none⟩,
   ⟨(.some 37), (.bin .rem (.t 35) (.t 36)), .none⟩,
   ⟨(.some 5), (.mov (.t 37)), .none⟩])
 c45_6))
abbrev c45_4 : PCode :=
 (.keep [0, 1, 5] (.seq (.region [⟨(.some 28), (.mov (.t 0)), .none⟩,
   ⟨(.some 29), (.nilchk (.t 28)), .none⟩,
   ⟨(.some 30), (.faddr 1 (.t 29)), .none⟩,
   ⟨(.some 31), (.load .false 1 (.t 30) .false), .none⟩,
   ⟨(.some 32), (.bin .add (.t 31) (.c (.d (.int .i64 1)))), .none⟩,
   ⟨(.some 33), (.nilchk (.t 28)), .none⟩,
   ⟨(.some 34), (.faddr 1 (.t 33)), .none⟩,
   ⟨.none, (.store 1 (.t 34) (.t 32)), .none⟩])
 c45_5))
abbrev c45_3 : PCode :=
 (.keep [0, 1] (.seq (.region [⟨(.some 12), (.mov (.t 0)), .none⟩,
   ⟨(.some 13), (.nilchk (.t 12)), .none⟩,
   ⟨(.some 14), (.faddr 0 (.t 13)), .none⟩,
   ⟨(.some 15), (.load .false 1 (.t 14) .false), .none⟩,
   ⟨(.some 16), (.mov (.t 0)), .none⟩,
   ⟨(.some 17), (.nilchk (.t 16)), .none⟩,
   ⟨(.some 18), (.faddr 1 (.t 17)), .none⟩,
   ⟨(.some 19), (.load .false 1 (.t 18) .false), .none⟩,
   ⟨(.some 20), (.mov (.t 0)), .none⟩,
   ⟨(.some 21), (.nilchk (.t 20)), .none⟩,
   ⟨(.some 22), (.faddr 0 (.t 21)), .none⟩,
   ⟨(.some 23), (.load .false 1 (.t 22) .false), .none⟩,
   ⟨(.some 24), (.len (.t 23)), .none⟩,
   ⟨(.some 25), (.bin .rem (.t 19) (.t 24)), .none⟩,
   ⟨(.some 26), (.iaddr 1 (.t 15) (.t 25)), .none⟩,
   ⟨(.some 27), (.load .false 1 (.t 26) .false), .none⟩,
   ⟨(.some 5), (.mov (.t 27)), .none⟩])
 c45_4))
abbrev c45_0 : PCode :=
 (.seq (.seq (.region [⟨(.some 6), (.mov (.t 0)), .none⟩,
   ⟨(.some 7), (.nilchk (.t 6)), .none⟩,
   ⟨(.some 8), (.faddr 0 (.t 7)), .none⟩,
   ⟨(.some 9), (.load .false 1 (.t 8) .false), .none⟩,
   ⟨(.some 10), (.len (.t 9)), .none⟩,
   ⟨(.some 11), (.bin .eql (.t 10) (.c (.d (.int .i64 0)))), .none⟩])
 c45_1)
 c45_3)
def c45 : PFun := ⟨
 (.seq (.region [⟨(.some 4), (.mov (.c (.d (.int .i64 0)))), .none⟩])
 c45_0),
 2, 44, [(.tmp 4)]⟩

/-- prompter/prompterref08.Flat -/
abbrev c26_2 : PCode :=
 (.seq (.region [⟨(.some 11), (.faddr 1 (.t 3)), .none⟩,
   ⟨(.some 12), (.load .false 1 (.t 11) .false), .none⟩,
   ⟨(.some 13), (.call0 46 [(.t 12)]), .none⟩,
   ⟨(.some 14), (.bsl 1 [(.t 13)]), .none⟩,
   ⟨(.some 4), (.mov (.t 14)), .none⟩])
 .ret)
abbrev c26_1 : PCode :=
 (.cond (.t 10)
  c26_2
  .skip)
abbrev c26_5 : PCode :=
 (.seq (.region [⟨(.some 18), (.faddr 2 (.t 3)), .none⟩,
   ⟨(.some 19), (.load .false 1 (.t 18) .false), .none⟩,
   ⟨(.some 20), (.lenS (.t 19)), .none⟩,
   ⟨(.some 21), (.bsl 1 [(.t 20)]), .none⟩,
   ⟨(.some 4), (.mov (.t 21)), .none⟩])
 .ret)
abbrev c26_4 : PCode :=
 (.cond (.t 17)
  c26_5
  .skip)
abbrev c26_9 : PCode :=
 (.region [⟨(.some 25), (.mov (.t 5)), .none⟩,
   ⟨(.some 26), (.faddr 3 (.t 3)), .none⟩,
   ⟨(.some 27), (.load .false 1 (.t 26) .false), .none⟩,
   ⟨(.some 28), (.len (.t 27)), .none⟩,
   ⟨(.some 29), (.bsl 1 [(.t 28)]), .none⟩,
   ⟨(.some 30), (.app 1 8 (.t 25) (.t 29)), .none⟩,
   ⟨(.some 5), (.mov (.t 30)), .none⟩])
abbrev c26_8 : PCode :=
 (.cond (.t 24)
  c26_9
  .skip)
abbrev c26_12 : PCode :=
 (.region [⟨(.some 39), (.mov (.t 5)), .none⟩,
   ⟨(.some 40), (.faddr 0 (.t 3)), .none⟩,
   ⟨(.some 41), (.load .false 1 (.t 40) .false), .none⟩,
   ⟨(.some 42), (.bsl 1 [(.t 41)]), .none⟩,
   ⟨(.some 43), (.app 1 8 (.t 39) (.t 42)), .none⟩,
   ⟨(.some 5), (.mov (.t 43)), .none⟩])
abbrev c26_11 : PCode :=
 (.cond (.t 38)
  c26_12
  .skip)
abbrev c26_16 : PCode :=
 (.exit 0)
abbrev c26_15 : PCode :=
 (.cond (.t 48)
  .skip
  c26_16)
abbrev c26_20 : PCode :=
 (.region [⟨(.some 54), (.mov (.t 6)), .none⟩,
   ⟨(.some 7), (.mov (.t 54)), .none⟩])
abbrev c26_19 : PCode :=
 (.cond (.t 53)
  c26_20
  .skip)
abbrev c26_23 : PCode :=
 (.region [⟨(.some 58), (.faddr 0 (.t 3)), .none⟩,
   ⟨(.some 59), (.load .false 1 (.t 58) .false), .none⟩,
   ⟨(.some 7), (.mov (.t 59)), .none⟩])
abbrev c26_22 : PCode :=
 (.cond (.t 57)
  c26_23
  .skip)
abbrev c26_24 : PCode :=
 (.region [⟨(.some 60), (.mov (.t 5)), .none⟩,
   ⟨(.some 61), (.faddr 3 (.t 2)), .none⟩,
   ⟨(.some 62), (.load .false 1 (.t 61) .false), .none⟩,
   ⟨(.some 63), (.mov (.t 7)), .none⟩,
   ⟨(.some 64), (.iaddr 4 (.t 62) (.t 63)), .none⟩,
   ⟨(.some 65), (.load .true 4 (.t 64) .false), .none⟩,
   ⟨(.some 66), (.faddr 3 (.t 3)), .none⟩,
   ⟨(.some 67), (.load .false 1 (.t 66) .false), .none⟩,
   ⟨(.some 68), (.mov (.t 6)), .none⟩,
   ⟨(.some 69), (.iaddr 4 (.t 67) (.t 68)), .none⟩,
   ⟨(.some 70), (.load .true 4 (.t 69) .false), .none⟩,
   ⟨(.some 71), (.call0 26 [(.t 65), (.t 70)]), .none⟩,
   ⟨(.some 72), (.app 1 8 (.t 60) (.t 71)), .none⟩,
   ⟨(.some 5), (.mov (.t 72)), .none⟩])
abbrev c26_21 : PCode :=
 (.keep [2, 3, 5, 6, 7] (.seq (.seq (.region [⟨(.some 55), (.faddr 0 (.t 2)), .none⟩,
   ⟨(.some 56), (.load .false 1 (.t 55) .false), .none⟩,
   ⟨(.some 57), (.bin .eql (.t 56) (.c (.d (.int .i64 8)))), .none⟩])
 c26_22)
 c26_24))
abbrev c26_18 : PCode :=
 (.seq (.seq (.region [⟨(.some 51), (.faddr 0 (.t 2)), .none⟩,
   ⟨(.some 52), (.load .false 1 (.t 51) .false), .none⟩,
   ⟨(.some 53), (.bin .eql (.t 52) (.c (.d (.int .i64 6)))), .none⟩])
 c26_19)
 c26_21)
abbrev c26_25 : PCode :=
 (.region [⟨(.some 49), (.mov (.t 6)), .none⟩,
   ⟨(.some 50), (.bin .add (.t 49) (.c (.d (.int .i64 1)))), .none⟩,
   ⟨(.some 6), (.mov (.t 50)), .none⟩])
abbrev c26_17 : PCode :=
 (.seq (.block 1 (.seq (.region [⟨(.some 7), (.mov (.c (.d (.int .i64 0)))), .none⟩])
 c26_18))
 c26_25)
abbrev c26_14 : PCode :=
 (.block 0 (.loop (.some [5, 6, 2, 3]) (.seq (.seq (.region [⟨(.some 44), (.mov (.t 6)), .none⟩,
   ⟨(.some 45), (.faddr 3 (.t 3)), .none⟩,
   ⟨(.some 46), (.load .false 1 (.t 45) .false), .none⟩,
   ⟨(.some 47), (.len (.t 46)), .none⟩,
   ⟨(.some 48), (.bin .lss (.t 44) (.t 47)), .none⟩])
 c26_15)
 c26_17)))
abbrev c26_26 : PCode :=
 (.seq (.region [⟨(.some 73), (.mov (.t 5)), .none⟩,
   ⟨(.some 4), (.mov (.t 73)), .none⟩])
 .ret)
abbrev c26_13 : PCode :=
 (.keep [2, 3, 5] (.seq (.seq (.region [⟨(.some 6), (.mov (.c (.d (.int .i64 0)))), .none⟩])
 c26_14)
 c26_26))
abbrev c26_10 : PCode :=
 (.keep [2, 3, 5] (.seq (.seq (.region [⟨(.some 31), (.faddr 0 (.t 2)), .none⟩,
   ⟨(.some 32), (.load .false 1 (.t 31) .false), .none⟩,
   ⟨(.some 33), (.bin .lss (.t 32) (.c (.d (.int .i64 3)))), .none⟩,
   ⟨(.some 34), (.mov (.t 33)), .none⟩,
   ⟨(.some 35), (.faddr 0 (.t 2)), (.some (34, .false))⟩,
   ⟨(.some 36), (.load .false 1 (.t 35) .false), (.some (34, .false))⟩,
   ⟨(.some 37), (.bin .gtr (.t 36) (.c (.d (.int .i64 6)))), (.some (34, .false))⟩,
   ⟨(.some 38), (.pick (.t 34) (.c (.d (.bool .true))) (.t 37)), .none⟩])
 c26_11)
 c26_13))
abbrev c26_7 : PCode :=
 (.seq (.seq (.region [⟨(.some 22), (.faddr 0 (.t 2)), .none⟩,
   ⟨(.some 23), (.load .false 1 (.t 22) .false), .none⟩,
   ⟨(.some 24), (.bin .eql (.t 23) (.c (.d (.int .i64 5)))), .none⟩])
 c26_8)
 c26_10)
abbrev c26_6 : PCode :=
 (.keep [2, 3] (.seq (.region [⟨(.some 5), (.mov (.c (.full []))), .none⟩])
 c26_7))
abbrev c26_3 : PCode :=
 (.keep [2, 3] (.seq (.seq (.region [⟨(.some 15), (.faddr 0 (.t 2)), .none⟩,
   ⟨(.some 16), (.load .false 1 (.t 15) .false), .none⟩,
   ⟨(.some 17), (.bin .eql (.t 16) (.c (.d (.int .i64 4)))), .none⟩])
 c26_4)
 c26_6))
abbrev c26_0 : PCode :=
 (.keep [2, 3] (.seq (.seq (.region [⟨(.some 8), (.faddr 0 (.t 2)), .none⟩,
   ⟨(.some 9), (.load .false 1 (.t 8) .false), .none⟩,
   ⟨(.some 10), (.bin .eql (.t 9) (.c (.d (.int .i64 3)))), .none⟩])
 c26_1)
 c26_3))
def c26 : PFun := ⟨
 (.seq (.region [⟨(.some 2), (.box 4 (.t 0)), .none⟩,
   ⟨(.some 3), (.box 4 (.t 1)), .none⟩,
   ⟨(.some 4), (.mov (.c (.full []))), .none⟩])
 c26_0),
 2, 74, [(.tmp 4)]⟩

theorem e45 : entered Try.prog 45 = true := by kernel_rfl
theorem k45 : compFun Try.prog (fun _ => 0) 45 = some c45.er := by kernel_rfl
theorem e26 : entered Try.prog 26 = true := by kernel_rfl
theorem k26 : compFun Try.prog (fun _ => 0) 26 = some c26.er := by kernel_rfl


theorem nextRC (l : List Int) (hl : l.length < 2 ^ 40) (hr : ∀ x ∈ l, -9223372036854775808 ≤ x ∧ x ≤ 9223372036854775807) (a : Nat) (ha : a < 2 ^ 61) (many : Int) (hm : 0 < many ∧ many ≤ 4611686018427387904) (c : AV) (pm : Nat) :
    CL (PCalls Try.prog GG) 45 [ptrAt pm, .d (.int .i64 many)] [.box pm [.d (i64s l), i64 a, c]] (fun _ : Unit => .d (.int .i64 (nextN l a % many))) (fun _ => [.box pm [.d (i64s l), i64 (nextA l a), c]]) := by
  refine ⟨fun N => ⟨(), fun x hx => ?_, by simp⟩, ?_⟩
  · rw [List.mem_singleton.1 hx]
    exact .inl ⟨_, List.mem_cons_self, _, rfl⟩
  intro st t hL; refine pcalls_of k45 e45 (of_decide_eq_true rfl) ?_; dsimp only [c45]; generalize hQ : pfin _ _ = Q
  refine gor hL ?_; (repeat (clear hL; intro t hL; refine gor hL ?_))
  refine pcond_b rfl (fun h => ?_) (fun h => ?_)
  · have h' : l.length = 0 := by simpa using h
    refine gor hL ?_; (repeat (clear hL; intro t hL; refine gor hL ?_))
    rw [← hQ]
    have e1 : nextN l a = 0 := by rw [nextN, if_pos h']
    have e2 : nextA l a = a := by rw [nextA, if_pos h']
    rw [e1, e2, Int.zero_emod]
    exact pfinK () rfl (.inl rfl) hL
  have h' : l.length ≠ 0 := by simpa using h
  have hlt : a % l.length < l.length := Nat.mod_lt _ (by omega)
  have hy : l[a % l.length]? = some (nextN l a) := by
    rw [nextN, if_neg h', List.getD_eq_getElem?_getD, List.getElem?_eq_getElem hlt]; rfl
  have e2 : nextA l a = a + 1 := by rw [nextA, if_neg h']
  have hn := nextN_in hr a
  generalize nextN l a = n at *
  have he := emod_of (n := n) hm.1
  have h2 := Int.tmod_lt_of_pos n hm.1
  have h3 : -many < n.tmod many := by
    have := Int.tmod_lt_of_pos (-n) hm.1
    rw [Int.neg_tmod] at this
    omega
  refine gor hL ?_; (repeat (clear hL; intro t hL; refine gor hL ?_))
  refine po_remN rfl rfl h' ?_
  refine gor hL ?_; (repeat (clear hL; intro t hL; refine gor hL ?_))
  rw [IntWalk.i64_in ((a : Int) + 1) (by omega)] at hL
  refine po_rem rfl rfl (by omega) ?_
  refine gor hL ?_; (repeat (clear hL; intro t hL; refine gor hL ?_))
  refine pjoin (fun s u => s = put (fun _ => .undef) (some 5) (.d (.int .i64 (n % many))) ∧ u = t) ?_ ?_
  · refine gor hL ?_; (repeat (clear hL; intro t hL; refine gor hL ?_))
    refine pcond_b rfl (fun h4 => ?_) (fun h4 => ?_)
    · have h4' : n.tmod many < 0 := by simpa using h4
      rw [if_pos h4'] at he
      refine gor hL ?_; (repeat (clear hL; intro t hL; refine gor hL ?_))
      refine gnm ?_; rw [IntWalk.i64_in (n.tmod many + many) (by omega), he]
      refine gor hL ?_; (repeat (clear hL; intro t hL; refine gor hL ?_))
      exact ⟨tr2, trivial⟩
    · have h4' : ¬ n.tmod many < 0 := by simpa using h4
      rw [if_neg h4'] at he
      refine gnm ?_; rw [he]
      refine gor hL ?_; (repeat (clear hL; intro t hL; refine gor hL ?_))
      exact ⟨tr2, trivial⟩
  · rintro s u ⟨rfl, rfl⟩
    refine gor hL ?_; (repeat (clear hL; intro t hL; refine gor hL ?_))
    rw [← hQ]
    rw [e2]
    exact pfinK () rfl (.inl rfl) hL
theorem rowsI_app2 (l r : List Int) : rowsI l ++ rowsI r = rowsI (l ++ r) := by rw [rowsI, rowsI, rowsI, List.map_append]
theorem flatLoop (kk m nn : Int) (o : List KT) (v : VT) (hvl : v.of.length < 2 ^ 40) (ix : Nat → Nat) (f : Nat → List Int) (pre : List Int) (h6 : kk = 6 → ∀ i, i < v.of.length → ix i = i) (h8 : kk = 8 → ∀ i, i < v.of.length → v.n = ix i) (h0 : kk ≠ 6 → kk ≠ 8 → ∀ i, i < v.of.length → ix i = 0)
    (hp : ∀ i, i < v.of.length → ∃ y x, o[ix i]? = some y ∧ v.of[i]? = some x ∧ Pure (PCalls Try.prog GG) 26 [y.rav, x.av] (.d (i64s (f i)))) (hlen : (pre ++ (List.range v.of.length).flatMap f).length < 2 ^ 40)
    {st t : St} {p2 p3 : Nat} {a0 : AV} {Q : PEx → Slots → St → Prop} (hQ : pfin [PRes.tmp 4] (fun r st' => st' = st ∧ r = .d (i64s (pre ++ (List.range v.of.length).flatMap f))) = Q)
    (hL : Lay st (.vec a0 (rowsI pre) 1 :: [.box p3 [.d (.int .i64 v.n), .d (.flt .f64 v.f), .d (.str v.s), .d (.sl (v.of.map VT.row))], .box p2 [.d (.int .i64 kk), .d (.int .i64 m), .d (.int .i64 nn), .d (.sl (o.map KT.rrow))]]) t) :
    pwp GG (PCalls Try.prog GG) c26_14 (PEx.next (pwp GG (PCalls Try.prog GG) c26_26 Q) Q) (put (put (put (put (fun _ => .undef) (some 5) a0) (some 3) (ptrAt p3)) (some 2) (ptrAt p2)) (some 6) (.d (.int .i64 0))) t := by
  refine pblock (pupA v.of.length (fun k s u => ∃ a, s = put (put (put (put (fun _ => .undef) (some 3) (ptrAt p3)) (some 2) (ptrAt p2)) (some 6) (i64 k)) (some 5) a ∧ Lay st [.vec a (rowsI (pre ++ (List.range k).flatMap f)) 1, .box p3 [.d (.int .i64 v.n), .d (.flt .f64 v.f), .d (.str v.s), .d (.sl (v.of.map VT.row))], .box p2 [.d (.int .i64 kk), .d (.int .i64 m), .d (.int .i64 nn), .d (.sl (o.map KT.rrow))]] u) ⟨a0, trimA, by simpa using hL⟩ ?_)
  clear hL
  rintro k s t hk ⟨a, rfl, hL⟩
  have fa := hL.vk a
  obtain ⟨fa_r, fa_w, fa_w1, fa_c, fa_s, fa_d⟩ := id fa
  refine gor hL ?_; (repeat (clear hL; intro t hL; refine gor hL ?_))
  refine pcond_b rfl (fun hlt => ?_) (fun hlt => ?_)
  · have hlt' : k < v.of.length := by simpa using hlt
    obtain ⟨y, x, hy, hx, hc⟩ := hp k hlt'
    rw [KT.rav_eq, VT.av_eq] at hc
    refine gor hL ?_; (repeat (clear hL; intro t hL; refine gor hL ?_))
    refine pjoin (fun s u => s = put (put (put (put (put (fun _ => .undef) (some 7) (i64 (if kk = 6 then k else 0 : Nat))) (some 6) (i64 k)) (some 5) a) (some 3) (ptrAt p3)) (some 2) (ptrAt p2) ∧ u = t) ?_ ?_
    · refine gor hL ?_; (repeat (clear hL; intro t hL; refine gor hL ?_))
      refine pcond_b rfl (fun e6 => ?_) (fun e6 => ?_)
      · have e6' : kk = 6 := by simpa using e6
        refine gor hL ?_; (repeat (clear hL; intro t hL; refine gor hL ?_))
        exact ⟨by rw [if_pos e6']; exact tr2, trivial⟩
      · have e6' : ¬ kk = 6 := by simpa using e6
        refine gor hL ?_; (repeat (clear hL; intro t hL; refine gor hL ?_))
        exact ⟨by rw [if_neg e6']; exact tr2, trivial⟩
    rintro s u ⟨rfl, rfl⟩
    refine gor hL ?_; (repeat (clear hL; intro t hL; refine gor hL ?_))
    refine pcond_b rfl (fun e8 => ?_) (fun e8 => ?_)
    · have e8' : kk = 8 := by simpa using e8
      refine gor hL ?_; (repeat (clear hL; intro t hL; refine gor hL ?_))
      refine gnm ?_; rw [h8 e8' k hlt']
      refine gor hL ?_; (repeat (clear hL; intro t hL; refine gor hL ?_))
      refine po_c0 (hc) ?_
      refine gor hL ?_; (repeat (clear hL; intro t hL; refine gor hL ?_))
      refine po_appA (hn := rowsI_len _) hL (rowsI_len _) ?_ ?_
      · have := pre_len (f := f) (k := k + 1) (n := v.of.length) hlt'
        rw [List.range_succ, List.flatMap_append, List.length_append] at this
        simp at this hlen ⊢
        omega
      clear hL; intro a' t f' hL
      obtain ⟨f'_r, f'_w, f'_w1, f'_c, f'_s, f'_d⟩ := id f'
      rw [rowsI_app2, List.append_assoc, show (List.range k).flatMap f ++ f k = (List.range (k + 1)).flatMap f by rw [List.range_succ, List.flatMap_append]; simp] at hL
      refine gor hL ?_; (repeat (clear hL; intro t hL; refine gor hL ?_))
      refine gnm ?_; rw [IntWalk.i64_in ((k : Int) + 1) (by omega)]
      refine ⟨hlt', a', trimA, ?_⟩
      (try rw [← h8 e8' k hlt'])
      exact hL.pk
    · have e8' : ¬ kk = 8 := by simpa using e8
      have e : (if kk = 6 then k else 0) = ix k := by
        split
        · rename_i e6; exact (h6 e6 k hlt').symm
        · rename_i e6; exact (h0 e6 e8' k hlt').symm
      refine gnm ?_; rw [e]
      refine gor hL ?_; (repeat (clear hL; intro t hL; refine gor hL ?_))
      refine po_c0 (hc) ?_
      refine gor hL ?_; (repeat (clear hL; intro t hL; refine gor hL ?_))
      refine po_appA (hn := rowsI_len _) hL (rowsI_len _) ?_ ?_
      · have := pre_len (f := f) (k := k + 1) (n := v.of.length) hlt'
        rw [List.range_succ, List.flatMap_append, List.length_append] at this
        simp at this hlen ⊢
        omega
      clear hL; intro a' t f' hL
      obtain ⟨f'_r, f'_w, f'_w1, f'_c, f'_s, f'_d⟩ := id f'
      rw [rowsI_app2, List.append_assoc, show (List.range k).flatMap f ++ f k = (List.range (k + 1)).flatMap f by rw [List.range_succ, List.flatMap_append]; simp] at hL
      refine gor hL ?_; (repeat (clear hL; intro t hL; refine gor hL ?_))
      refine gnm ?_; rw [IntWalk.i64_in ((k : Int) + 1) (by omega)]
      refine ⟨hlt', a', trimA, ?_⟩
      exact hL.pk
  · have hlt' : ¬ k < v.of.length := by simpa using hlt
    obtain rfl : k = v.of.length := by omega
    refine gor hL ?_; (repeat (clear hL; intro t hL; refine gor hL ?_))
    rw [← hQ]
    exact pfin_weak (u := a) rfl fa_w hL.le
theorem C26 : ∀ (e : Nat) (T : KT) (v : VT), WT e T → VT.is e T v = true → v.fit → v.count < 2 ^ 40 → Pure (PCalls Try.prog GG) 26 [T.rav, v.av] (.d (i64s (flatR e T v))) := by
  intro e
  induction e with
  | zero => intro T v h; cases h
  | succ d ih =>
  intro T v hw his hv hcn
  have hvl := hv.len
  have hfl := Nat.lt_of_le_of_lt (flatR_len hw his) hcn
  cases hw with
  | base _ k hk =>
    have : k = 0 ∨ k = 1 ∨ k = 2 ∨ k = 3 := by omega
    rcases this with rfl | rfl | rfl | rfl
    · simp only [KT.rav_eq, VT.av_eq, KT.pj, List.length_nil, List.map_nil, List.map_cons]
      have hz : v.of.length = 0 := by rw [is0] at his; simp at his; simp [his]
      have hR : flatR (d + 1) (.mk 0 0 [] []) v = [v.n] ++ (List.range v.of.length).flatMap fun _ => [] := by
        show [] ++ [v.n] ++ (List.range v.of.length).flatMap _ = _
        rw [hz]; rfl
      rw [hR] at hfl ⊢
      intro st; refine pcalls_of k26 e26 (of_decide_eq_true rfl) ?_; dsimp only [c26]; refine pstartL ?_; intro t hL; generalize hQ : pfin _ _ = Q
      (refine gor hL ?_; (repeat (clear hL; intro t hL; refine gor hL ?_))); refine po_boxA hL ?_; clear hL; intro p2 t hL
      (refine gor hL ?_; (repeat (clear hL; intro t hL; refine gor hL ?_))); refine po_boxA hL ?_; clear hL; intro p3 t hL
      refine gor hL ?_; (repeat (clear hL; intro t hL; refine gor hL ?_))
      refine gor hL ?_; (repeat (clear hL; intro t hL; refine gor hL ?_)); (repeat (refine pseqk ?_; refine gor hL ?_; (repeat (clear hL; intro t hL; refine gor hL ?_))))
      replace hL := hL.full [] 1
      refine po_appA (rows := []) hL (fun r h => (by cases h)) ?_ ?_
      · simp
      clear hL; intro v1 t f1 hL
      obtain ⟨f1_r, f1_w, f1_w1, f1_c, f1_s, f1_d⟩ := id f1
      rw [List.nil_append] at hL
      refine gor hL ?_; (repeat (clear hL; intro t hL; refine gor hL ?_)); (repeat (refine pseqk ?_; refine gor hL ?_; (repeat (clear hL; intro t hL; refine gor hL ?_))))
      exact flatLoop 0 _ _ [] v hvl (fun _ => 0) (fun _ => []) [v.n] (by omega) (by omega) (by omega) (by omega) (by omega) hQ (hL.pk)
    · simp only [KT.rav_eq, VT.av_eq, KT.pj, List.length_nil, List.map_nil, List.map_cons]
      have hz : v.of.length = 0 := by rw [is1] at his; simp at his; simp [his]
      have hR : flatR (d + 1) (.mk 1 0 [] []) v = [v.n] ++ (List.range v.of.length).flatMap fun _ => [] := by
        show [] ++ [v.n] ++ (List.range v.of.length).flatMap _ = _
        rw [hz]; rfl
      rw [hR] at hfl ⊢
      intro st; refine pcalls_of k26 e26 (of_decide_eq_true rfl) ?_; dsimp only [c26]; refine pstartL ?_; intro t hL; generalize hQ : pfin _ _ = Q
      (refine gor hL ?_; (repeat (clear hL; intro t hL; refine gor hL ?_))); refine po_boxA hL ?_; clear hL; intro p2 t hL
      (refine gor hL ?_; (repeat (clear hL; intro t hL; refine gor hL ?_))); refine po_boxA hL ?_; clear hL; intro p3 t hL
      refine gor hL ?_; (repeat (clear hL; intro t hL; refine gor hL ?_))
      refine gor hL ?_; (repeat (clear hL; intro t hL; refine gor hL ?_)); (repeat (refine pseqk ?_; refine gor hL ?_; (repeat (clear hL; intro t hL; refine gor hL ?_))))
      replace hL := hL.full [] 1
      refine po_appA (rows := []) hL (fun r h => (by cases h)) ?_ ?_
      · simp
      clear hL; intro v1 t f1 hL
      obtain ⟨f1_r, f1_w, f1_w1, f1_c, f1_s, f1_d⟩ := id f1
      rw [List.nil_append] at hL
      refine gor hL ?_; (repeat (clear hL; intro t hL; refine gor hL ?_)); (repeat (refine pseqk ?_; refine gor hL ?_; (repeat (clear hL; intro t hL; refine gor hL ?_))))
      exact flatLoop 1 _ _ [] v hvl (fun _ => 0) (fun _ => []) [v.n] (by omega) (by omega) (by omega) (by omega) (by omega) hQ (hL.pk)
    · simp only [KT.rav_eq, VT.av_eq, KT.pj, List.length_nil, List.map_nil, List.map_cons]
      have hz : v.of.length = 0 := by rw [is2] at his; simp at his; simp [his]
      have hR : flatR (d + 1) (.mk 2 0 [] []) v = [v.n] ++ (List.range v.of.length).flatMap fun _ => [] := by
        show [] ++ [v.n] ++ (List.range v.of.length).flatMap _ = _
        rw [hz]; rfl
      rw [hR] at hfl ⊢
      intro st; refine pcalls_of k26 e26 (of_decide_eq_true rfl) ?_; dsimp only [c26]; refine pstartL ?_; intro t hL; generalize hQ : pfin _ _ = Q
      (refine gor hL ?_; (repeat (clear hL; intro t hL; refine gor hL ?_))); refine po_boxA hL ?_; clear hL; intro p2 t hL
      (refine gor hL ?_; (repeat (clear hL; intro t hL; refine gor hL ?_))); refine po_boxA hL ?_; clear hL; intro p3 t hL
      refine gor hL ?_; (repeat (clear hL; intro t hL; refine gor hL ?_))
      refine gor hL ?_; (repeat (clear hL; intro t hL; refine gor hL ?_)); (repeat (refine pseqk ?_; refine gor hL ?_; (repeat (clear hL; intro t hL; refine gor hL ?_))))
      replace hL := hL.full [] 1
      refine po_appA (rows := []) hL (fun r h => (by cases h)) ?_ ?_
      · simp
      clear hL; intro v1 t f1 hL
      obtain ⟨f1_r, f1_w, f1_w1, f1_c, f1_s, f1_d⟩ := id f1
      rw [List.nil_append] at hL
      refine gor hL ?_; (repeat (clear hL; intro t hL; refine gor hL ?_)); (repeat (refine pseqk ?_; refine gor hL ?_; (repeat (clear hL; intro t hL; refine gor hL ?_))))
      exact flatLoop 2 _ _ [] v hvl (fun _ => 0) (fun _ => []) [v.n] (by omega) (by omega) (by omega) (by omega) (by omega) hQ (hL.pk)
    · simp only [KT.rav_eq, VT.av_eq, KT.pj, List.length_nil, List.map_nil, List.map_cons]
      have hR : flatR (d + 1) (.mk 3 0 [] []) v = [wholeF v.f] := rfl
      rw [hR] at hfl ⊢
      intro st; refine pcalls_of k26 e26 (of_decide_eq_true rfl) ?_; dsimp only [c26]; refine pstartL ?_; intro t hL; generalize hQ : pfin _ _ = Q
      (refine gor hL ?_; (repeat (clear hL; intro t hL; refine gor hL ?_))); refine po_boxA hL ?_; clear hL; intro p2 t hL
      (refine gor hL ?_; (repeat (clear hL; intro t hL; refine gor hL ?_))); refine po_boxA hL ?_; clear hL; intro p3 t hL
      refine gor hL ?_; (repeat (clear hL; intro t hL; refine gor hL ?_))
      refine po_c0 (C46 v.f) ?_
      refine gor hL ?_; (repeat (clear hL; intro t hL; refine gor hL ?_))
      rw [← hQ]
      exact pfin_weak rfl rfl hL.le
  | text _ m hm =>
    simp only [KT.rav_eq, VT.av_eq, KT.pj, List.length_nil, List.map_nil, List.map_cons]
    have hR : flatR (d + 1) (.mk 4 m [] []) v = [(v.s.size : Int)] := rfl
    rw [hR] at hfl ⊢
    intro st; refine pcalls_of k26 e26 (of_decide_eq_true rfl) ?_; dsimp only [c26]; refine pstartL ?_; intro t hL; generalize hQ : pfin _ _ = Q
    (refine gor hL ?_; (repeat (clear hL; intro t hL; refine gor hL ?_))); refine po_boxA hL ?_; clear hL; intro p2 t hL
    (refine gor hL ?_; (repeat (clear hL; intro t hL; refine gor hL ?_))); refine po_boxA hL ?_; clear hL; intro p3 t hL
    refine gor hL ?_; (repeat (clear hL; intro t hL; refine gor hL ?_))
    refine gor hL ?_; (repeat (clear hL; intro t hL; refine gor hL ?_)); (repeat (refine pseqk ?_; refine gor hL ?_; (repeat (clear hL; intro t hL; refine gor hL ?_))))
    rw [← hQ]
    exact pfin_weak rfl rfl hL.le
  | seq _ m o hm ho =>
    simp only [KT.rav_eq, VT.av_eq, KT.pj, List.length_nil, List.map_nil, List.map_cons]
    obtain ⟨_, _, _, ha⟩ := is_5 rfl his
    have hR : flatR (d + 1) (.mk 5 m [] [o]) v = [(v.of.length : Int)] ++ (List.range v.of.length).flatMap fun i => flatR d o (v.of.getD i VT.zero) := by
      show [(v.of.length : Int)] ++ [] ++ (List.range v.of.length).flatMap _ = _
      rw [List.append_nil]; rfl
    rw [hR] at hfl ⊢
    intro st; refine pcalls_of k26 e26 (of_decide_eq_true rfl) ?_; dsimp only [c26]; refine pstartL ?_; intro t hL; generalize hQ : pfin _ _ = Q
    (refine gor hL ?_; (repeat (clear hL; intro t hL; refine gor hL ?_))); refine po_boxA hL ?_; clear hL; intro p2 t hL
    (refine gor hL ?_; (repeat (clear hL; intro t hL; refine gor hL ?_))); refine po_boxA hL ?_; clear hL; intro p3 t hL
    refine gor hL ?_; (repeat (clear hL; intro t hL; refine gor hL ?_))
    refine gor hL ?_; (repeat (clear hL; intro t hL; refine gor hL ?_)); (repeat (refine pseqk ?_; refine gor hL ?_; (repeat (clear hL; intro t hL; refine gor hL ?_))))
    replace hL := hL.full [] 1
    refine po_appA (rows := []) hL (fun r h => (by cases h)) ?_ ?_
    · simp
    clear hL; intro v1 t f1 hL
    obtain ⟨f1_r, f1_w, f1_w1, f1_c, f1_s, f1_d⟩ := id f1
    rw [List.nil_append] at hL
    refine gor hL ?_; (repeat (clear hL; intro t hL; refine gor hL ?_)); (repeat (refine pseqk ?_; refine gor hL ?_; (repeat (clear hL; intro t hL; refine gor hL ?_))))
    replace hL := hL.perm (List.Perm.refl _)
    exact flatLoop 5 _ _ [o] v hvl (fun _ => 0) (fun i => flatR d o (v.of.getD i VT.zero)) [(v.of.length : Int)] (by omega) (by omega) (fun _ _ _ _ => rfl) (fun i hi => by
      obtain ⟨x, hx, hxm⟩ := elem_at hi
      have e : v.of.getD i VT.zero = x := by rw [List.getD_eq_getElem?_getD, hx]; rfl
      rw [e]
      exact ⟨o, x, rfl, hx, ih o x ho (ha x hxm) (hv.part hxm) (by have := VT.count_part hxm; omega)⟩) (by omega) hQ (hL.pk)
  | reco _ k n o hk hl hn hf ho =>
    rcases hk with rfl | rfl
    · simp only [KT.rav_eq, VT.av_eq, KT.pj, List.length_nil, List.map_nil, List.map_cons]
      obtain ⟨_, h2, ha⟩ := is_6 rfl his
      have hR : flatR (d + 1) (.mk 6 0 n o) v = [] ++ (List.range v.of.length).flatMap fun i => flatR d (o.getD i (.mk 0 0 [] [])) (v.of.getD i VT.zero) := rfl
      rw [hR] at hfl ⊢
      intro st; refine pcalls_of k26 e26 (of_decide_eq_true rfl) ?_; dsimp only [c26]; refine pstartL ?_; intro t hL; generalize hQ : pfin _ _ = Q
      (refine gor hL ?_; (repeat (clear hL; intro t hL; refine gor hL ?_))); refine po_boxA hL ?_; clear hL; intro p2 t hL
      (refine gor hL ?_; (repeat (clear hL; intro t hL; refine gor hL ?_))); refine po_boxA hL ?_; clear hL; intro p3 t hL
      refine gor hL ?_; (repeat (clear hL; intro t hL; refine gor hL ?_))
      refine gor hL ?_; (repeat (clear hL; intro t hL; refine gor hL ?_)); (repeat (refine pseqk ?_; refine gor hL ?_; (repeat (clear hL; intro t hL; refine gor hL ?_))))
      replace hL := hL.full [] 1
      exact flatLoop 6 _ _ o v hvl (fun i => i) (fun i => flatR d (o.getD i (.mk 0 0 [] [])) (v.of.getD i VT.zero)) [] (fun _ _ _ => rfl) (by omega) (by omega) (fun i hi => by
        obtain ⟨x, hx, hxm⟩ := elem_at hi
        have h2' : v.of.length = o.length := h2
        obtain ⟨y, hy, hym⟩ := elem_at (l := o) (k := i) (by omega)
        have e : v.of.getD i VT.zero = x := by rw [List.getD_eq_getElem?_getD, hx]; rfl
        have e' : o.getD i (.mk 0 0 [] []) = y := by rw [List.getD_eq_getElem?_getD, hy]; rfl
        rw [e, e']
        exact ⟨y, x, hy, hx, ih y x (ho y hym) (allZip_get ha i y x hy hx) (hv.part hxm) (by have := VT.count_part hxm; omega)⟩) (by omega) hQ (hL.pk)
    · simp only [KT.rav_eq, VT.av_eq, KT.pj, List.length_nil, List.map_nil, List.map_cons]
      obtain ⟨⟨g1, g2, g3⟩, ha⟩ := is_8 rfl his
      have hj : v.n.toNat < o.length := by
        have : v.n < (o.length : Int) := g2
        omega
      have hR : flatR (d + 1) (.mk 8 0 n o) v = [v.n] ++ (List.range v.of.length).flatMap fun i => flatR d (o.getD v.n.toNat (.mk 0 0 [] [])) (v.of.getD i VT.zero) := rfl
      rw [hR] at hfl ⊢
      intro st; refine pcalls_of k26 e26 (of_decide_eq_true rfl) ?_; dsimp only [c26]; refine pstartL ?_; intro t hL; generalize hQ : pfin _ _ = Q
      (refine gor hL ?_; (repeat (clear hL; intro t hL; refine gor hL ?_))); refine po_boxA hL ?_; clear hL; intro p2 t hL
      (refine gor hL ?_; (repeat (clear hL; intro t hL; refine gor hL ?_))); refine po_boxA hL ?_; clear hL; intro p3 t hL
      refine gor hL ?_; (repeat (clear hL; intro t hL; refine gor hL ?_))
      refine gor hL ?_; (repeat (clear hL; intro t hL; refine gor hL ?_)); (repeat (refine pseqk ?_; refine gor hL ?_; (repeat (clear hL; intro t hL; refine gor hL ?_))))
      replace hL := hL.full [] 1
      refine po_appA (rows := []) hL (fun r h => (by cases h)) ?_ ?_
      · simp
      clear hL; intro v1 t f1 hL
      obtain ⟨f1_r, f1_w, f1_w1, f1_c, f1_s, f1_d⟩ := id f1
      rw [List.nil_append] at hL
      refine gor hL ?_; (repeat (clear hL; intro t hL; refine gor hL ?_)); (repeat (refine pseqk ?_; refine gor hL ?_; (repeat (clear hL; intro t hL; refine gor hL ?_))))
      exact flatLoop 8 _ _ o v hvl (fun _ => v.n.toNat) (fun i => flatR d (o.getD v.n.toNat (.mk 0 0 [] [])) (v.of.getD i VT.zero)) [v.n] (by omega) (fun _ _ _ => by omega) (by omega) (fun i hi => by
        obtain ⟨x, hx, hxm⟩ := elem_at hi
        obtain ⟨y, hy, hym⟩ := elem_at (l := o) (k := v.n.toNat) hj
        have e : v.of.getD i VT.zero = x := by rw [List.getD_eq_getElem?_getD, hx]; rfl
        have e' : o.getD v.n.toNat (.mk 0 0 [] []) = y := by rw [List.getD_eq_getElem?_getD, hy]; rfl
        have e0 : v.of.getD 0 VT.zero = x := by
          have : i = 0 := by omega
          rw [← this, e]
        have ha' : VT.is d (o.getD v.n.toNat (.mk 0 0 [] [])) (v.of.getD 0 VT.zero) = true := ha
        rw [e', e0] at ha'
        rw [e, e']
        exact ⟨y, x, hy, hx, ih y x (ho y hym) ha' (hv.part hxm) (by have := VT.count_part hxm; omega)⟩) (by omega) hQ (hL.pk)
  | enum _ n hl hf =>
    simp only [KT.rav_eq, VT.av_eq, KT.pj, List.length_nil, List.map_nil, List.map_cons]
    have hz : v.of.length = 0 := by rw [is7] at his; simp at his; simp [his]
    have hR : flatR (d + 1) (.mk 7 0 n []) v = [v.n] ++ (List.range v.of.length).flatMap fun _ => [] := by
      show [] ++ [v.n] ++ (List.range v.of.length).flatMap _ = _
      rw [hz]; rfl
    rw [hR] at hfl ⊢
    intro st; refine pcalls_of k26 e26 (of_decide_eq_true rfl) ?_; dsimp only [c26]; refine pstartL ?_; intro t hL; generalize hQ : pfin _ _ = Q
    (refine gor hL ?_; (repeat (clear hL; intro t hL; refine gor hL ?_))); refine po_boxA hL ?_; clear hL; intro p2 t hL
    (refine gor hL ?_; (repeat (clear hL; intro t hL; refine gor hL ?_))); refine po_boxA hL ?_; clear hL; intro p3 t hL
    refine gor hL ?_; (repeat (clear hL; intro t hL; refine gor hL ?_))
    refine gor hL ?_; (repeat (clear hL; intro t hL; refine gor hL ?_)); (repeat (refine pseqk ?_; refine gor hL ?_; (repeat (clear hL; intro t hL; refine gor hL ?_))))
    replace hL := hL.full [] 1
    refine po_appA (rows := []) hL (fun r h => (by cases h)) ?_ ?_
    · simp
    clear hL; intro v1 t f1 hL
    obtain ⟨f1_r, f1_w, f1_w1, f1_c, f1_s, f1_d⟩ := id f1
    rw [List.nil_append] at hL
    refine gor hL ?_; (repeat (clear hL; intro t hL; refine gor hL ?_)); (repeat (refine pseqk ?_; refine gor hL ?_; (repeat (clear hL; intro t hL; refine gor hL ?_))))
    exact flatLoop 7 _ _ [] v hvl (fun _ => 0) (fun _ => []) [v.n] (by omega) (by omega) (by omega) (by omega) (by omega) hQ (hL.pk)
end Go.Pv
