/- Functions of the program, by value. No condition. -/
import Derived.Test.YtoghanbjiikheaaT20
import Derived.Test.YtoghanbjiikheaaT7
namespace Go.Pv
open Go.Proofs
set_option maxRecDepth 100000
set_option maxHeartbeats 8000000

/-- slices.DeleteFunc[[]int,int] -/
abbrev c25_3 : PCode :=
 (.seq (.region [⟨(.some 13), (.mov (.t 0)), .none⟩,
   ⟨(.some 4), (.mov (.t 13)), .none⟩])
 .ret)
abbrev c25_2 : PCode :=
 (.cond (.t 12)
  c25_3
  .skip)
abbrev c25_7 : PCode :=
 (.exit 0)
abbrev c25_6 : PCode :=
 (.cond (.t 19)
  .skip
  c25_7)
abbrev c25_12 : PCode :=
 (.region [⟨(.some 34), (.mov (.t 5)), .none⟩,
   ⟨(.some 35), (.bin .add (.t 34) (.c (.d (.int .i64 1)))), .none⟩,
   ⟨(.some 5), (.mov (.t 35)), .none⟩])
abbrev c25_11 : PCode :=
 (.seq (.region [⟨(.some 30), (.mov (.t 0)), .none⟩,
   ⟨(.some 31), (.mov (.t 5)), .none⟩,
   ⟨(.some 32), (.mov (.t 7)), .none⟩,
   ⟨(.some 33), (.iaddr 1 (.t 30) (.t 31)), .none⟩,
   ⟨.none, (.store 1 (.t 33) (.t 32)), .none⟩])
 c25_12)
abbrev c25_10 : PCode :=
 (.cond (.t 29)
  c25_11
  .skip)
abbrev c25_9 : PCode :=
 (.keep [0, 1, 5, 6, 7] (.seq (.region [⟨(.some 26), (.mov (.t 1)), .none⟩,
   ⟨(.some 27), (.mov (.t 7)), .none⟩,
   ⟨(.some 28), (.callv0 (.t 26) [(.t 27)]), .none⟩,
   ⟨(.some 29), (.not (.t 28)), .none⟩])
 c25_10))
abbrev c25_13 : PCode :=
 (.region [⟨(.some 20), (.mov (.t 6)), .none⟩,
   ⟨(.some 21), (.bin .add (.t 20) (.c (.d (.int .i64 1)))), .none⟩,
   ⟨(.some 6), (.mov (.t 21)), .none⟩])
abbrev c25_8 : PCode :=
 (.seq (.block 1 (.seq (.region [⟨(.some 22), (.mov (.t 0)), .none⟩,
   ⟨(.some 23), (.mov (.t 6)), .none⟩,
   ⟨(.some 24), (.iaddr 1 (.t 22) (.t 23)), .none⟩,
   ⟨(.some 25), (.load .false 1 (.t 24) .false), .none⟩,
   ⟨(.some 7), (.mov (.t 25)), .none⟩])
 c25_9))
 c25_13)
abbrev c25_5 : PCode :=
 (.keep [0, 1, 5, 6] (.block 0 (.loop (.some [5, 6, 0, 1]) (.seq (.seq (.region [⟨(.some 16), (.mov (.t 6)), .none⟩,
   ⟨(.some 17), (.mov (.t 0)), .none⟩,
   ⟨(.some 18), (.len (.t 17)), .none⟩,
   ⟨(.some 19), (.bin .lss (.t 16) (.t 18)), .none⟩])
 c25_6)
 c25_8))))
abbrev c25_15 : PCode :=
 (.keep [0, 5] (.seq (.region [⟨(.some 39), (.mov (.t 0)), .none⟩,
   ⟨(.some 40), (.mov (.t 5)), .none⟩,
   ⟨(.some 41), (.slc 1 (.t 39) .none (.some (.t 40))), .none⟩,
   ⟨(.some 4), (.mov (.t 41)), .none⟩])
 .ret))
abbrev c25_14 : PCode :=
 (.seq (.region [⟨(.some 36), (.mov (.t 0)), .none⟩,
   ⟨(.some 37), (.mov (.t 5)), .none⟩,
   ⟨(.some 38), (.slc 1 (.t 36) (.some (.t 37)) .none), .none⟩,
   ⟨.none, (.clr [(.d (.int .i64 0))] (.t 38)), .none⟩])
 c25_15)
abbrev c25_4 : PCode :=
 (.keep [0, 1, 5] (.seq (.seq (.region [⟨(.some 14), (.mov (.t 5)), .none⟩,
   ⟨(.some 15), (.bin .add (.t 14) (.c (.d (.int .i64 1)))), .none⟩,
   ⟨(.some 6), (.mov (.t 15)), .none⟩])
 c25_5)
 c25_14))
abbrev c25_1 : PCode :=
 (.keep [0, 1, 5] (.seq (.seq (.region [⟨(.some 11), (.mov (.t 5)), .none⟩,
   ⟨(.some 12), (.bin .eql (.t 11) (.c (.d (.int .i64 (-1))))), .none⟩])
 c25_2)
 c25_4))
abbrev c25_0 : PCode :=
 (.seq (.region [⟨(.some 8), (.mov (.t 0)), .none⟩,
   ⟨(.some 9), (.mov (.t 1)), .none⟩,
   ⟨(.some 10), (.call0 29 [(.t 8), (.t 9)]), .none⟩,
   ⟨(.some 5), (.mov (.t 10)), .none⟩])
 c25_1)
def c25 : PFun := ⟨
 (.seq (.region [⟨(.some 4), (.mov (.c (.full []))), .none⟩])
 c25_0),
 2, 42, [(.tmp 4)]⟩

/-- slices.IndexFunc[[]int,int] -/
abbrev c29_5 : PCode :=
 (.seq (.region [⟨(.some 17), (.mov (.t 5)), .none⟩,
   ⟨(.some 4), (.mov (.t 17)), .none⟩])
 .ret)
abbrev c29_4 : PCode :=
 (.cond (.t 16)
  c29_5
  .skip)
abbrev c29_3 : PCode :=
 (.seq (.region [⟨(.some 11), (.mov (.t 1)), .none⟩,
   ⟨(.some 12), (.mov (.t 0)), .none⟩,
   ⟨(.some 13), (.mov (.t 5)), .none⟩,
   ⟨(.some 14), (.iaddr 1 (.t 12) (.t 13)), .none⟩,
   ⟨(.some 15), (.load .false 1 (.t 14) .false), .none⟩,
   ⟨(.some 16), (.callv0 (.t 11) [(.t 15)]), .none⟩])
 c29_4)
abbrev c29_2 : PCode :=
 (.block 1 (.seq (.region [⟨(.some 10), (.mov (.t 8)), .none⟩,
   ⟨(.some 5), (.mov (.t 10)), .none⟩])
 c29_3))
abbrev c29_1 : PCode :=
 (.keep [0, 1, 7, 8] (.block 0 (.loop (.some [8, 0, 1, 7]) (.seq (.region [⟨(.some 9), (.bin .lss (.t 8) (.t 7)), .none⟩])
 (.seq (.cond (.t 9)
  .skip
  (.exit 0))
 (.seq c29_2
 (.region [⟨(.some 18), (.bin .add (.t 8) (.c (.d (.int .i64 1)))), .none⟩,
   ⟨(.some 8), (.mov (.t 18)), .none⟩])))))))
abbrev c29_6 : PCode :=
 (.seq (.region [⟨(.some 4), (.mov (.c (.d (.int .i64 (-1))))), .none⟩])
 .ret)
abbrev c29_0 : PCode :=
 (.seq (.seq (.region [⟨(.some 6), (.mov (.t 0)), .none⟩,
   ⟨(.some 7), (.len (.t 6)), .none⟩,
   ⟨(.some 8), (.mov (.c (.d (.int .i64 0)))), .none⟩])
 c29_1)
 c29_6)
def c29 : PFun := ⟨
 (.seq (.region [⟨(.some 4), (.mov (.c (.d (.int .i64 0)))), .none⟩])
 c29_0),
 2, 19, [(.tmp 4)]⟩

/-- (prompter/troupe.View).Without$1 -/
abbrev c26_0 : PCode :=
 (.seq (.region [⟨(.some 4), (.mov (.t 0)), .none⟩,
   ⟨(.some 5), (.load .false 1 (.t 1) .false), .none⟩,
   ⟨(.some 6), (.bin .eql (.t 4) (.t 5)), .none⟩,
   ⟨(.some 3), (.mov (.t 6)), .none⟩])
 .ret)
def c26 : PFun := ⟨
 (.seq (.region [⟨(.some 3), (.mov (.c (.d (.bool .false)))), .none⟩])
 c26_0),
 2, 7, [(.tmp 3)]⟩

theorem e25 : entered Try.prog 25 = true := by kernel_rfl
theorem k25 : compFun Try.prog (fun _ => 0) 25 = some c25.er := by kernel_rfl
theorem e29 : entered Try.prog 29 = true := by kernel_rfl
theorem k29 : compFun Try.prog (fun _ => 0) 29 = some c29.er := by kernel_rfl
theorem e26 : entered Try.prog 26 = true := by kernel_rfl
theorem k26 : compFun Try.prog (fun _ => 0) 26 = some c26.er := by kernel_rfl

abbrev scI (l : List Int) : List AV := l.map fun n => .d (.int .i64 n)
theorem C26 (x n : Int) (p : Nat) : CL (PCalls Try.prog GG) 26 [.d (.int .i64 x), ptrAt p] [.box p [.d (.int .i64 n)]] (fun _ : Unit => b2 (x == n)) (fun _ => [.box p [.d (.int .i64 n)]]) := by
  refine ⟨fun _ => ⟨(), fun x hx => by
    rw [List.mem_singleton.1 hx]
    exact .inl ⟨_, List.mem_cons_self, _, rfl⟩, by simp⟩, ?_⟩
  intro st t hL; refine pcalls_of k26 e26 (of_decide_eq_true rfl) ?_; dsimp only [c26]; generalize hQ : pfin _ _ = Q
  refine gor hL ?_; (repeat (clear hL; intro t hL; refine gor hL ?_))
  rw [← hQ]
  exact pfinK () rfl (.inl rfl) hL
def ixF (l : List Int) (n : Int) : Int := match l.findIdx? (· == n) with | some i => (i : Nat) | none => -1
theorem iaddr_bk {G : Glob} {s : Slots} {a x : Arg} {b n cap k : Nat} (ha : a.ev G s = .bsl b 0 n cap) (hx : x.ev G s = i64 k) (hn : k < n) : Go.Pv.ev G s (.iaddr 1 a x) = some (.d (.ptr b (0 + k * 1))) := by
  simp only [Go.Pv.ev, ha, hx, i64]
  rw [if_pos (by omega)]
  rfl
theorem scI_get {l : List Int} {rest : List AV} {k : Nat} {y : Int} (h : l[k]? = some y) : ldv false 1 ((scI l ++ rest).drop (0 + k * 1)) = some (.d (.int .i64 y)) := by
  obtain ⟨hk, rfl⟩ := List.getElem?_eq_some_iff.1 h
  unfold ldv
  have hl : ((scI l ++ rest).drop (0 + k * 1)).length = l.length + rest.length - k := by simp
  rw [if_neg (by omega)]
  simp only [Bool.false_eq_true, if_false, if_true]
  rw [List.head?_drop, Nat.mul_one, Nat.zero_add, List.getElem?_append_left (by simpa using hk), List.getElem?_map, List.getElem?_eq_getElem hk]
  rfl
theorem two_sat {b p : Nat} (hbp : b ≠ p) (l l' m m' : List AV) : Sat [.box b l, .box p m] (fun _ : Unit => [.box b l', .box p m']) := fun _ => ⟨(), fun x hx => by
  rcases List.mem_cons.1 hx with rfl | hx
  · exact .inl ⟨_, List.mem_cons_self, _, rfl⟩
  · rw [List.mem_singleton.1 hx]; exact .inl ⟨_, List.mem_cons_of_mem _ List.mem_cons_self, _, rfl⟩, by
  refine List.pairwise_cons.2 ⟨fun y hy => ?_, by simp⟩
  rw [List.mem_singleton.1 hy]
  intro c h1 h2
  simp only [Item.blk, Option.some.injEq] at h1 h2
  omega⟩
theorem C29 (l : List Int) (rest : List AV) (n : Int) (b cap p : Nat) (hbp : b ≠ p) (hl : l.length < 2 ^ 62) :
    CL (PCalls Try.prog GG) 29 [.bsl b 0 l.length cap, .d (.fn 26 [] [.ptr p 0])] [.box b (scI l ++ rest), .box p [.d (.int .i64 n)]] (fun _ : Unit => .d (.int .i64 (ixF l n))) (fun _ => [.box b (scI l ++ rest), .box p [.d (.int .i64 n)]]) := by
  refine ⟨two_sat hbp _ _ _ _, ?_⟩
  intro st t hL; refine pcalls_of k29 e29 (of_decide_eq_true rfl) ?_; dsimp only [c29]; generalize hQ : pfin _ _ = Q
  refine gor hL ?_; (repeat (clear hL; intro t hL; refine gor hL ?_))
  (apply prangeJ (l.length) (by omega) (fun k t => (∀ j, j < k → l[j]? ≠ some n) ∧ Lay st [.box b (scI l ++ rest), .box p [.d (.int .i64 n)]] t)); (· exact trimA); (· exact fun _ => rfl)
  · exact ⟨fun j h => by omega, hL⟩
  · rintro t ⟨hI, hL⟩
    have e : ixF l n = -1 := by
      unfold ixF
      rw [List.findIdx?_eq_none_iff.2 (fun x hx => by
        obtain ⟨j, hj, rfl⟩ := List.getElem_of_mem hx
        have := hI j hj
        rw [List.getElem?_eq_getElem hj] at this
        simpa using this)]
    rw [e] at hQ
    refine gor hL ?_; (repeat (clear hL; intro t hL; refine gor hL ?_))
    rw [← hQ]
    exact pfinK () rfl (.inl rfl) hL
  · rintro k hk t ⟨hI, hL⟩
    obtain ⟨y, hy, _⟩ := elem_at hk
    refine pblock ?_
    refine gor hL ?_; (repeat (clear hL; intro t hL; refine gor hL ?_))
    refine po rfl (iaddr_bk rfl rfl hk) ?_
    refine po_loadL hL rfl rfl (by repeat (first | exact Rem.head | apply Rem.tail)) (scI_get hy) ?_
    refine gor hL ?_; (repeat (clear hL; intro t hL; refine gor hL ?_))
    refine po_callvK hL (C26 y n p) ?_
    clear hL; intro _ t hL
    refine gor hL ?_; (repeat (clear hL; intro t hL; refine gor hL ?_))
    by_cases hyn : y = n
    · subst hyn
      have e : ixF l y = (k : Nat) := by
        unfold ixF
        rw [List.findIdx?_eq_some_iff_getElem.2 ⟨hk, by rw [List.getElem?_eq_getElem hk, Option.some.injEq] at hy; simp [hy], fun j hj => by
          have := hI j hj
          rw [List.getElem?_eq_getElem (by omega)] at this
          simpa using this⟩]
      rw [e] at hQ
      refine gor hL ?_; (repeat (clear hL; intro t hL; refine gor hL ?_))
      rw [← hQ]
      exact pfinK () rfl (.inl rfl) hL
    · refine gnm ?_; rw [show (y == n) = false by simpa using hyn]
      refine gor hL ?_; (repeat (clear hL; intro t hL; refine gor hL ?_))
      exact ⟨⟨fun j hj => by
        rcases Nat.lt_succ_iff_lt_or_eq.1 hj with h | rfl
        · exact hI j h
        · rw [hy]; simpa using hyn, hL.pk⟩, tr2⟩
theorem po_clrL {G : Glob} {C : CallsP} {st t : St} {L R : List Item} {zc : List AV} {x : Arg} {d : Option Nat} {rest : List POper} {K : X → Prop} {s : Slots} {m : Mx} {b o n cap : Nat} {cells out : List AV} (hL : Lay st L t) (hm : m.st = t) (hx : x.ev G s = .bsl b o n cap) (hr : Rem (.box b cells) L R)
    (hn : n ≠ 0) (hfit : o + n * zc.length ≤ cells.length) (hout : cells.take o ++ (List.replicate n zc).flatten ++ cells.drop (o + n * zc.length) = out) (h : ∀ t', Lay st (.box b out :: R) t' → pops G C rest K ⟨put s d (.tup []), Mx.new t'⟩) : pops G C (⟨d, .clr zc x, none⟩ :: rest) K ⟨s, m⟩ := by
  have hL' := hL.rem hr
  rw [pops_plain]
  unfold ostep
  subst hout
  simp only [nf, hx]
  refine ⟨cells, by rw [hm]; exact hL.get hr, hn, hfit, h _ ?_⟩
  rw [hm]
  exact hL'.store _
theorem scI_set {C : List Int} {rest : List AV} {k : Nat} (h : k < C.length) (v : Int) : (scI C ++ rest).take (0 + k * 1) ++ [.d (.int .i64 v)] ++ (scI C ++ rest).drop (0 + k * 1 + 1) = scI (C.set k v) ++ rest := by
  have e1 : (scI C ++ rest).set k (.d (.int .i64 v)) = scI (C.set k v) ++ rest := by
    rw [List.set_append_left _ _ (by simpa using h), ← List.map_set]
  rw [← e1, List.set_eq_take_append_cons_drop, if_pos (by simp; omega), Nat.mul_one, Nat.zero_add, List.append_assoc]
  rfl
theorem slc_lo {G : Glob} {s : Slots} {x a : Arg} {b n cap i : Nat} (hx : x.ev G s = .bsl b 0 n cap) (ha : a.ev G s = i64 i) (h1 : i ≤ n) (h2 : i < cap) : Go.Pv.ev G s (.slc 1 x (some a) none) = some (.bsl b (0 + i * 1) (n - i) (cap - i)) := by
  simp only [Go.Pv.ev, hx, ha, bnds, bnd, i64, Option.map_some, Option.map_none, Option.bind_some]
  rw [if_pos (by omega)]
  simp
  omega
def keepF (n : Int) (l : List Int) : List Int := l.filter fun x => x != n
theorem C25 (l : List Int) (rest : List AV) (n : Int) (b cap p : Nat) (hbp : b ≠ p) (hl : l.length < 2 ^ 62) (hcap : l.length ≤ cap) :
    CL (PCalls Try.prog GG) 25 [.bsl b 0 l.length cap, .d (.fn 26 [] [.ptr p 0])] [.box b (scI l ++ rest), .box p [.d (.int .i64 n)]] (fun _ : {R : List AV // R.length = l.length - (keepF n l).length + rest.length} => .bsl b 0 (keepF n l).length cap)
      (fun R => [.box b (scI (keepF n l) ++ R.1), .box p [.d (.int .i64 n)]]) := by
  refine ⟨fun N => ⟨⟨List.replicate (l.length - (keepF n l).length + rest.length) .undef, List.length_replicate ..⟩, (two_sat hbp _ _ _ _ N).choose_spec⟩, ?_⟩
  intro st t hL; refine pcalls_of k25 e25 (of_decide_eq_true rfl) ?_; dsimp only [c25]; generalize hQ : pfin _ _ = Q
  refine gor hL ?_; (repeat (clear hL; intro t hL; refine gor hL ?_))
  refine po_callK hL (C29 l rest n b cap p hbp hl) ?_
  clear hL; intro _ t hL
  refine gor hL ?_; (repeat (clear hL; intro t hL; refine gor hL ?_))
  cases hix : l.findIdx? (· == n) with
  | none =>
    have e : ixF l n = -1 := by unfold ixF; rw [hix]
    have ek : keepF n l = l := List.filter_eq_self.2 fun x hx => by
      have := List.findIdx?_eq_none_iff.1 hix x hx
      simpa [bne] using this
    refine gnm ?_; rw [e]
    refine gor hL ?_; (repeat (clear hL; intro t hL; refine gor hL ?_))
    rw [← hQ]
    refine ⟨_, .bsl b 0 (keepF n l).length cap, _, rfl, .inl (by rw [ek]; rfl), .refl _, ⟨rest, by rw [ek]; omega⟩, rfl, ?_⟩
    show Lay st [.box b (scI (keepF n l) ++ rest), .box p [.d (.int .i64 n)]] t
    rw [ek]
    exact hL
  | some i0 =>
    have e : ixF l n = (i0 : Nat) := by unfold ixF; rw [hix]
    obtain ⟨hi0, hi1, hi2⟩ := List.findIdx?_eq_some_iff_getElem.1 hix
    refine gnm ?_; rw [e, show ((i0 : Int) == -1) = false from beq_eq_false_iff_ne.2 (by omega)]
    refine gor hL ?_; (repeat (clear hL; intro t hL; refine gor hL ?_))
    refine gnm ?_; rw [show IntKind.i64.wrap ((i0 : Int) + 1) = ((i0 + 1 : Nat) : Int) from (IntWalk.i64_in _ (by omega)).trans (by omega)]
    refine gor hL ?_; (repeat (clear hL; intro t hL; refine gor hL ?_))
    have hk0 : keepF n (l.take (i0 + 1)) = l.take i0 := by
      rw [take_snoc (List.getElem?_eq_getElem hi0), keepF, List.filter_append]
      have h1 : [l[i0]].filter (fun x => x != n) = [] := by
        have : l[i0] = n := by simpa using hi1
        simp [this]
      rw [h1, List.append_nil]
      exact List.filter_eq_self.2 fun x hx => by
        obtain ⟨j, hj, rfl⟩ := List.getElem_of_mem hx
        rw [List.getElem_take]
        have := hi2 j (by simp at hj; omega)
        simpa [bne] using this
    refine pblock ?_
    refine ploop (fun (g : Nat) s t => ∃ (i j : Nat) (C : List Int), g = l.length - j ∧ i < j ∧ j ≤ l.length ∧ C.length = l.length ∧ C.take i = keepF n (l.take j) ∧ C.drop j = l.drop j ∧ s = put (put (put (put (fun _ => .undef) (some 1) (.d (.fn 26 [] [.ptr p 0]))) (some 0) (.bsl b 0 l.length cap)) (some 6) (i64 j)) (some 5) (i64 i) ∧ Lay st [.box b (scI C ++ rest), .box p [.d (.int .i64 n)]] t) ?_ (m := l.length - (i0 + 1)) ⟨i0, i0 + 1, l, rfl, by omega, by omega, rfl, hk0.symm, rfl, (by first | exact trimA | simp +decide only [pvc, pvi, pvt]), hL⟩
    clear hL
    rintro g s t ⟨i, j, C, rfl, hij, hjl, hCl, hCt, hCd, rfl, hL⟩
    refine gor hL ?_; (repeat (clear hL; intro t hL; refine gor hL ?_))
    by_cases hj : j < l.length
    · refine gnm ?_; rw [show decide ((j : Int) < (l.length : Int)) = true from decide_eq_true (by omega)]
      refine gor hL ?_; (repeat (clear hL; intro t hL; refine gor hL ?_))
      have hy : C[j]? = some l[j] := by
        have := congrArg (fun z => z[0]?) hCd
        simpa [List.getElem?_drop, List.getElem?_eq_getElem hj] using this
      have hCd' : C.drop (j + 1) = l.drop (j + 1) := by
        have := congrArg (List.drop 1) hCd
        simpa [List.drop_drop] using this
      have hts : l.take (j + 1) = l.take j ++ [l[j]] := take_snoc (List.getElem?_eq_getElem hj)
      generalize l[j] = y at *
      refine po rfl (iaddr_bk rfl rfl hj) ?_
      refine po_loadL hL rfl rfl (by repeat (first | exact Rem.head | apply Rem.tail)) (scI_get hy) ?_
      refine gor hL ?_; (repeat (clear hL; intro t hL; refine gor hL ?_))
      refine po_callvK hL (C26 y n p) ?_
      clear hL; intro _ t hL
      have ej : IntKind.i64.wrap ((j : Int) + 1) = ((j + 1 : Nat) : Int) := (IntWalk.i64_in _ (by omega)).trans (by omega)
      have ei : IntKind.i64.wrap ((i : Int) + 1) = ((i + 1 : Nat) : Int) := (IntWalk.i64_in _ (by omega)).trans (by omega)
      by_cases hyn : y = n
      · refine gor hL ?_; (repeat (clear hL; intro t hL; refine gor hL ?_))
        refine gnm ?_; rw [show (y == n) = true by simpa using hyn]
        refine gor hL ?_; (repeat (clear hL; intro t hL; refine gor hL ?_))
        refine gnm ?_; rw [ej]
        exact ⟨l.length - (j + 1), by omega, i, j + 1, C, rfl, by omega, by omega, hCl, by rw [hts, keepF, List.filter_append, hCt, keepF]; simp [hyn], hCd', by first | rfl | simp +decide only [pvc, pvi, pvt], hL.pk⟩
      · refine gor hL ?_; (repeat (clear hL; intro t hL; refine gor hL ?_))
        refine gnm ?_; rw [show (y == n) = false by simpa using hyn]
        refine gor hL ?_; (repeat (clear hL; intro t hL; refine gor hL ?_))
        refine po rfl (iaddr_bk rfl rfl (k := i) (by omega)) ?_
        refine po_storeL hL rfl rfl (by repeat (first | exact Rem.head | apply Rem.tail)) (cs := [.d (.int .i64 y)]) rfl ⟨rfl, rfl⟩ (by simp; omega) (scI_set (by omega) y) (fun _ _ _ h => False.elim h) ?_
        clear hL; intro t hL
        refine gor hL ?_; (repeat (clear hL; intro t hL; refine gor hL ?_))
        refine gnm ?_; rw [ei, ej]
        exact ⟨l.length - (j + 1), by omega, i + 1, j + 1, C.set i y, rfl, by omega, by omega, by rw [List.length_set, hCl], by
          rw [hts, keepF, List.filter_append, List.take_succ_eq_append_getElem (by rw [List.length_set]; omega), List.take_set_of_le (Nat.le_refl _), hCt, keepF]
          simp [hyn], by rw [List.drop_set_of_lt (by omega)]; exact hCd', by first | rfl | simp +decide only [pvc, pvi, pvt], hL.pk⟩
    · refine gnm ?_; rw [show decide ((j : Int) < (l.length : Int)) = false from decide_eq_false (by omega)]
      refine gor hL ?_; (repeat (clear hL; intro t hL; refine gor hL ?_))
      obtain rfl : j = l.length := by omega
      rw [List.take_length] at hCt
      have hKl : (keepF n l).length = i := by rw [← hCt, List.length_take]; omega
      refine po rfl (slc_lo rfl rfl (by omega) (by omega)) ?_
      refine po_clrL (out := scI (keepF n l) ++ (List.replicate (l.length - i) (AV.d (.int .i64 0)) ++ rest)) hL rfl rfl (by repeat (first | exact Rem.head | apply Rem.tail)) (by omega) (by simp; omega) ?_ ?_
      · have e1 : (scI C ++ rest).take (0 + i * 1) = scI (keepF n l) := by
          rw [← hCt, Nat.zero_add, Nat.mul_one, List.take_append_of_le_length (by simp; omega), scI, scI, List.map_take]
        have e2 : (scI C ++ rest).drop (0 + i * 1 + (l.length - i) * [AV.d (.int .i64 0)].length) = rest := by
          rw [List.drop_left' (by simp; omega)]
        rw [e1, e2, List.append_assoc]
        simp
      clear hL; intro t hL
      refine gor hL ?_; (repeat (clear hL; intro t hL; refine gor hL ?_))
      refine po rfl (slc_bsl rfl rfl (by omega)) ?_
      refine gor hL ?_; (repeat (clear hL; intro t hL; refine gor hL ?_))
      rw [← hQ]
      refine ⟨_, .bsl b 0 (keepF n l).length cap, _, rfl, .inl (by rw [hKl]; rfl), .refl _, ⟨List.replicate (l.length - i) (AV.d (.int .i64 0)) ++ rest, by rw [hKl]; simp⟩, rfl, hL.pk⟩
end Go.Pv
