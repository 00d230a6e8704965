/- Functions of the program, by value. No condition. -/
import Derived.Test.YtmcdhendjlijhaaV25
import Derived.Test.YtmcdhendjlijhaaX4
import Derived.Test.YtmcdhendjlijhaaX10
namespace Go.Pv
open Go.Proofs
set_option maxRecDepth 100000
set_option maxHeartbeats 8000000

theorem flat1 (l : List Int) : ((l.map fun n => [Dat.int .i64 n]).flatten.map AV.d) = l.map fun n => AV.d (.int .i64 n) := by
  induction l with
  | nil => rfl
  | cons x l ih => rw [List.map_cons, List.flatten_cons, List.map_append, ih]; rfl
theorem slc_elt {G : Glob} {s : Slots} {x : Arg} {R : List Int} (hx : x.ev G s = .elt (R.map (Dat.int .i64))) (hR : R.length = 8) : Go.Pv.ev G s (.slcA 8 1 x none none) = some (.d (i64s R)) := by
  have h : (R.map (Dat.int .i64)).take 8 = R.map (Dat.int .i64) := List.take_of_length_le (by simp [hR])
  simp only [Go.Pv.ev, hx, bnds, List.length_map, hR, Option.map_none, Option.bind_some, Option.map_some, h, List.drop_zero, List.map_map]
  rfl
theorem C5 (x : Sm11) (hx : x.fit) : Pure (PCalls Try.prog GG) 5 [.agg x.cs] (b2 true) := by
  have h1 := C14 x hx
  intro st; refine pcalls_of k5 e5 (of_decide_eq_true rfl) ?_; dsimp only [c5]; refine pstartL ?_; intro t hL; generalize hQ : pfin _ _ = Q
  (refine gor hL ?_; (repeat (clear hL; intro t hL; refine gor hL ?_))); refine po_boxA hL ?_; clear hL; intro p1 t hL
  refine gor hL ?_; (repeat (clear hL; intro t hL; refine gor hL ?_))
  refine po_c0 (C9) ?_
  refine gor hL ?_; (repeat (clear hL; intro t hL; refine gor hL ?_))
  refine po_c0 (h1) ?_
  refine gor hL ?_; (repeat (clear hL; intro t hL; refine gor hL ?_))
  cases hl : x.light with
  | false =>
    rw [hl] at h1
    refine gor hL ?_; (repeat (clear hL; intro t hL; refine gor hL ?_))
    rw [← hQ]
    exact pfin_pure rfl hL.le
  | true =>
    have hsm := Sm11.small hl
    obtain ⟨tk, an, p, S, l⟩ := x
    obtain ⟨s0, s1, s2, s3, s4, s5, s6, s7, rfl⟩ := len8 hx.S.1
    have hwT : WT 4 (Nd.typ 4 tk []) := .of_typ (by decide) hx.tk
    have hwA : WT 4 (Nd.typ 4 an []) := .of_typ (by decide) hx.an
    obtain ⟨t1, t2, t3⟩ := typ_le hx.tk
    obtain ⟨a1, a2, a3⟩ := typ_le hx.an
    have hlr : Rok l := hx.l.1
    have vf := buildV_fit hlr t1
    have vi := buildV_is hlr (show 4 ≤ 20 by decide) hwT
    have hcnt : (buildV l (Nd.typ 4 tk [])).count < 2 ^ 40 := Nat.lt_trans (buildV_count l (Nat.lt_of_le_of_lt (hwT.cost 20) (by decide))) (by decide)
    have h2 := C15 ⟨tk, an, p, [s0, s1, s2, s3, s4, s5, s6, s7], l⟩ hx hl
    have h3 := cPlay (Nd.typ 4 tk []) (Nd.typ 4 an []) t1 a1 a2 a3 [] (fun _ h => by cases h) (by decide) [s0, s1, s2, s3, s4, s5, s6, s7] rfl hx.S.2 (buildV l (Nd.typ 4 tk [])) vf (fun _ => hcnt)
    rw [play_none hwT hwA (by decide) rfl hlr] at h3
    have h4 := C16 8 _ _ t1 vf (fun _ => hcnt)
    have h5 := C18 (pad8 (flatM 64 (Nd.typ 4 tk []) (buildV l (Nd.typ 4 tk [])))) (by simp [pad8]) (pad8_ok (flatM_ok vf rfl)) _ a1 a2 a3
    have h6 := C17 (buildV (pad8 (flatM 64 (Nd.typ 4 tk []) (buildV l (Nd.typ 4 tk [])))) (Nd.typ 4 an [])) (buildV (pad8 (flatM 64 (Nd.typ 4 tk []) (buildV l (Nd.typ 4 tk [])))) (Nd.typ 4 an [])) (buildV_fit (pad8_ok (flatM_ok vf rfl)) a1)
    rw [VT.same_refl] at h6
    rw [KT.av_eq] at h4 h5
    simp only [VT.av_eq] at h2 h3 h4 h5 h6
    refine gor hL ?_; (repeat (clear hL; intro t hL; refine gor hL ?_))
    refine po_c0 (h2) ?_
    refine gor hL ?_; (repeat (clear hL; intro t hL; refine gor hL ?_))
    (refine gor hL ?_; (repeat (clear hL; intro t hL; refine gor hL ?_))); (with_reducible refine po_allocL hL rfl ?_); clear hL; intro p3 t hL
    (refine gor hL ?_; (repeat (clear hL; intro t hL; refine gor hL ?_))); (with_reducible refine po_allocL hL rfl ?_); clear hL; intro p4 t hL
    refine gor hL ?_; (repeat (clear hL; intro t hL; refine gor hL ?_))
    refine po_c0 (h3) ?_
    refine gor hL ?_; (repeat (clear hL; intro t hL; refine gor hL ?_))
    (refine gor hL ?_; (repeat (clear hL; intro t hL; refine gor hL ?_))); (with_reducible refine po_allocL hL rfl ?_); clear hL; intro p5 t hL
    (refine gor hL ?_; (repeat (clear hL; intro t hL; refine gor hL ?_))); (with_reducible refine po_allocL hL rfl ?_); clear hL; intro p6 t hL
    refine gor hL ?_; (repeat (clear hL; intro t hL; refine gor hL ?_))
    (refine gor hL ?_; (repeat (clear hL; intro t hL; refine gor hL ?_))); (with_reducible refine po_allocL hL rfl ?_); clear hL; intro p7 t hL
    refine gor hL ?_; (repeat (clear hL; intro t hL; refine gor hL ?_))
    have e8 : pad8 (flatM 8 (Nd.typ 4 tk []) (buildV l (Nd.typ 4 tk []))) = pad8 (flatM 64 (Nd.typ 4 tk []) (buildV l (Nd.typ 4 tk []))) := pad8_flat hwT (by decide) (by rw [← is_deep hwT 20 _ (by decide)]; exact vi)
    refine po_c0 h4 ?_ (by rfl)
    generalize flatM 8 (Nd.typ 4 tk []) (buildV l (Nd.typ 4 tk [])) = F8 at *
    have hR8 : (pad8 (flatM 64 (Nd.typ 4 tk []) (buildV l (Nd.typ 4 tk [])))).length = 8 := by simp [pad8]
    generalize pad8 (flatM 64 (Nd.typ 4 tk []) (buildV l (Nd.typ 4 tk []))) = R8 at *
    generalize hO : buildV R8 (Nd.typ 4 an []) = O at *
    refine pjoinO (fun s u => s = put (put (put (put (put (fun _ => .undef) (some 7) (.elt (R8.map (Dat.int .i64)))) (some 6) (ptrAt p6)) (some 5) (ptrAt p5)) (some 3) (ptrAt p3)) (some 1) (ptrAt p1) ∧
      Lay st [.box p6 [.d (.int .i64 0), .d (.int .i64 0), .d (.int .i64 O.n), .d (.flt .f64 O.f), .d (.str O.s), .d (.sl (O.of.map VT.row))], .box p5 (sc [s0, s1, s2, s3, s4, s5, s6, s7]),
        .box p3 [.d (.int .u8 (Nd.typ 4 tk []).kind), .d (.int .i64 (Nd.typ 4 tk []).most), .d (.sl ((Nd.typ 4 tk []).names.map fun s => [.str s])), .d (.sl ((Nd.typ 4 tk []).of.map KT.row)), .d (.int .u8 (Nd.typ 4 an []).kind), .d (.int .i64 (Nd.typ 4 an []).most), .d (.sl ((Nd.typ 4 an []).names.map fun s => [.str s])), .d (.sl ((Nd.typ 4 an []).of.map KT.row)), .full []],
        .box p1 (Sm11.cs ⟨tk, an, p, [s0, s1, s2, s3, s4, s5, s6, s7], l⟩)] u) ?_ ?_
    · refine po_copyL (o := 0) (n := 8) (cap := 8) (n' := F8.length) (v := .d (i64s F8)) hL rfl rfl (by repeat (first | exact Rem.head | apply Rem.tail)) rfl (by simp [AV.slen, AV.rows?, i64s]) (cs := (F8.take 8).map fun n => .d (.int .i64 n)) (out := R8.map fun n => .d (.int .i64 n)) ?_ ⟨?_, ?_⟩ ?_ ?_ ?_ ?_
      · show some (((F8.map fun n => [Dat.int .i64 n]).flatten.map AV.d).take (min F8.length 8 * 1)) = _
        rw [flat1, Nat.mul_one, List.map_take]
        congr 1
        by_cases h8 : F8.length ≤ 8
        · rw [show min F8.length 8 = F8.length by omega, List.take_of_length_le (by simp), List.take_of_length_le (by simp; omega)]
        · rw [show min F8.length 8 = 8 by omega]
      · simp [List.length_take]; omega
      · exact List.all_eq_true.2 fun y hy => by obtain ⟨n, _, rfl⟩ := List.mem_map.1 hy; rfl
      · show 0 + min F8.length 8 * 1 ≤ 8; omega
      · intro r hr y hy
        obtain rfl : F8.map (fun n => [Dat.int .i64 n]) = r := Option.some.inj hr
        obtain ⟨n, _, rfl⟩ := List.mem_map.1 hy; rfl
      · rw [← e8, ← pad8_cells, Nat.mul_one, Nat.zero_add]; rfl
      clear hL; intro t hL
      refine pnil ?_
      have hLm := hL.rem (x := .box p7 (R8.map fun n => .d (.int .i64 n))) (by repeat (first | exact Rem.head | apply Rem.tail))
      have n1 : p1 ≠ p7 := hLm.neq (by repeat (first | exact Rem.head | apply Rem.tail))
      have n3 : p3 ≠ p7 := hLm.neq (by repeat (first | exact Rem.head | apply Rem.tail))
      have n5 : p5 ≠ p7 := hLm.neq (by repeat (first | exact Rem.head | apply Rem.tail))
      have n6 : p6 ≠ p7 := hLm.neq (by repeat (first | exact Rem.head | apply Rem.tail))
      obtain ⟨t2, hf, hL2⟩ := hLm.elt (ds := R8.map (Dat.int .i64)) (by rw [List.map_map, List.map_map]; rfl)
      refine ⟨_, t2, hf _, ?_, hL2.pick (by (repeat (first | (with_reducible exact Pick.nil) | ((with_reducible apply Pick.cons); · (repeat (first | exact Rem.head | apply Rem.tail))))))⟩
      refine Eq.trans (congrArg (a₂ := put (put (put (put (put (fun _ => .undef) (some 7) (ptrAt p7)) (some 6) (ptrAt p6)) (some 5) (ptrAt p5)) (some 3) (ptrAt p3)) (some 1) (ptrAt p1)) (fun (z : Slots) => fun i => AV.elt1 p7 (R8.map (Dat.int .i64)) (z i)) (by first | exact trimA | simp +decide only [pvc, pvi, pvt])) ?_
      simp only [elt_put, elt_undef, elt_hit]
      rw [elt_miss _ n1, elt_miss _ n3, elt_miss _ n5, elt_miss _ n6]
    clear hL
    rintro s t ⟨rfl, hL⟩
    refine gor hL ?_; (repeat (clear hL; intro t hL; refine gor hL ?_))
    refine gnm ?_
    simp only [List.getD_cons_zero, List.getD_cons_succ, beq_self_eq_true, Bool.and_self]
    refine gor hL ?_; (repeat (clear hL; intro t hL; refine gor hL ?_))
    refine po rfl (slc_elt rfl hR8) ?_
    refine gor hL ?_; (repeat (clear hL; intro t hL; refine gor hL ?_))
    refine po_cp h5 ?_ (by rfl)
    refine gor hL ?_; (repeat (clear hL; intro t hL; refine gor hL ?_))
    refine po_cp h6 ?_ (by rfl)
    refine gor hL ?_; (repeat (clear hL; intro t hL; refine gor hL ?_))
    rw [← hQ]
    exact pfin_pure rfl hL.le
end Go.Pv
namespace Go.Pv
open Go.Proofs
set_option maxRecDepth 100000
set_option maxHeartbeats 8000000

/-- prompter/prompterlaw11.PlayErrors -/
abbrev c7_2 : PCode :=
 (.seq (.region [⟨(.some 10), (.mov (.c (.d (.bool .false)))), .none⟩])
 .ret)
abbrev c7_1 : PCode :=
 (.cond (.t 17)
  c7_2
  .skip)
abbrev c7_5 : PCode :=
 (.seq (.region [⟨(.some 10), (.mov (.c (.d (.bool .true)))), .none⟩])
 .ret)
abbrev c7_4 : PCode :=
 (.cond (.t 30)
  c7_5
  .skip)
abbrev c7_11 : PCode :=
 (.seq (.region [⟨(.some 10), (.mov (.c (.d (.bool .false)))), .none⟩])
 .ret)
abbrev c7_10 : PCode :=
 (.cond (.t 65)
  c7_11
  .skip)
abbrev c7_16 : PCode :=
 (.seq (.region [⟨(.some 79), (.load .true 8 (.t 14) .false), .none⟩,
   ⟨(.some 80), (.faddr 7 (.t 5)), .none⟩,
   ⟨(.some 81), (.load .true 8 (.t 80) .false), .none⟩,
   ⟨(.some 82), (.eqAgg .false [1, 1, 1, 1, 1, 1, 1, 1] (.t 79) (.t 81)), .none⟩,
   ⟨(.some 83), (.mov (.t 82)), .none⟩,
   ⟨(.some 84), (.load .true 6 (.t 15) .false), (.some (83, .true))⟩,
   ⟨(.some 85), (.bld [(.d (.int .i64 0)), (.d (.int .i64 0)), (.d (.int .i64 0)), (.d (.flt .f64 0)), (.d (.str (bs []))), (.full [])] [(0, (1, (.c (.d (.int .i64 14)))))]), (.some (83, .true))⟩,
   ⟨(.some 86), (.call0 24 [(.t 84), (.t 85)]), (.some (83, .true))⟩,
   ⟨(.some 87), (.pick (.t 83) (.t 86) (.c (.d (.bool .false)))), .none⟩,
   ⟨(.some 10), (.mov (.t 87)), .none⟩])
 .ret)
abbrev c7_15 : PCode :=
 (.cond (.t 78)
  c7_16
  .skip)
abbrev c7_17 : PCode :=
 (.keep [5, 14, 15] (.seq (.region [⟨(.some 88), (.faddr 0 (.t 15)), .none⟩,
   ⟨(.some 89), (.load .false 1 (.t 88) .false), .none⟩,
   ⟨(.some 90), (.bin .eql (.t 89) (.c (.d (.int .i64 0)))), .none⟩,
   ⟨(.some 91), (.mov (.t 90)), .none⟩,
   ⟨(.some 92), (.load .true 8 (.t 14) .false), (.some (91, .false))⟩,
   ⟨(.some 93), (.faddr 7 (.t 5)), (.some (91, .false))⟩,
   ⟨(.some 94), (.load .true 8 (.t 93) .false), (.some (91, .false))⟩,
   ⟨(.some 95), (.eqAgg .false [1, 1, 1, 1, 1, 1, 1, 1] (.t 92) (.t 94)), (.some (91, .false))⟩,
   ⟨(.some 96), (.pick (.t 91) (.c (.d (.bool .true))) (.t 95)), .none⟩,
   ⟨(.some 10), (.mov (.t 96)), .none⟩])
 .ret))
abbrev c7_14 : PCode :=
 (.keep [4, 5, 14, 15] (.seq (.seq (.region [⟨(.some 76), (.mov (.t 4)), .none⟩,
   ⟨(.some 77), (.call0 12 [(.t 76)]), .none⟩,
   ⟨(.some 78), (.bin .neq (.t 77) (.c (.d (.int .i64 0)))), .none⟩])
 c7_15)
 c7_17))
abbrev c7_13 : PCode :=
 (.keep [4, 5, 11, 12, 14, 15] (.seq (.region [⟨(.some 69), (.load .true 9 (.t 11) .false), .none⟩,
   ⟨(.some 70), (.faddr 7 (.t 5)), .none⟩,
   ⟨(.some 71), (.load .true 8 (.t 70) .false), .none⟩,
   ⟨(.some 72), (.load .true 4 (.t 12) .false), .none⟩,
   ⟨(.some 73), (.call0 13 [(.t 69), (.t 71), (.t 72)]), .none⟩,
   ⟨(.some 68), (.mov (.t 73)), .none⟩,
   ⟨(.some 74), (.ext (.t 68) 0), .none⟩,
   ⟨(.some 75), (.ext (.t 68) 1), .none⟩,
   ⟨.none, (.store 8 (.t 14) (.t 74)), .none⟩,
   ⟨.none, (.store 6 (.t 15) (.t 75)), .none⟩])
 c7_14))
abbrev c7_12 : PCode :=
 (.keep [4, 5, 11, 12, 14, 15] (.seq (.region [⟨(.some 66), (.mov (.t 4)), .none⟩,
   ⟨(.some 67), (.faddr 8 (.t 11)), .none⟩,
   ⟨.none, (.store 1 (.t 67) (.t 66)), .none⟩])
 c7_13))
abbrev c7_9 : PCode :=
 (.keep [4, 5, 11, 12, 13, 14, 15] (.seq (.seq (.region [⟨(.some 49), (.faddr 0 (.t 11)), .none⟩,
   ⟨(.some 50), (.load .true 4 (.t 49) .false), .none⟩,
   ⟨(.some 51), (.load .true 4 (.t 13) .false), .none⟩,
   ⟨(.some 52), (.call0 27 [(.t 50), (.t 51)]), .none⟩,
   ⟨(.some 53), (.bin .neq (.t 52) (.c (.d (.int .i64 0)))), .none⟩,
   ⟨(.some 54), (.mov (.t 53)), .none⟩,
   ⟨(.some 55), (.load .true 8 (.t 14) .false), (.some (54, .true))⟩,
   ⟨(.some 56), (.faddr 7 (.t 5)), (.some (54, .true))⟩,
   ⟨(.some 57), (.load .true 8 (.t 56) .false), (.some (54, .true))⟩,
   ⟨(.some 58), (.eqAgg .true [1, 1, 1, 1, 1, 1, 1, 1] (.t 55) (.t 57)), (.some (54, .true))⟩,
   ⟨(.some 59), (.mov (.t 58)), (.some (54, .true))⟩,
   ⟨(.some 60), (.load .true 6 (.t 15) .false), (.some (59, .false))⟩,
   ⟨(.some 61), (.bld [(.d (.int .i64 0)), (.d (.int .i64 0)), (.d (.int .i64 0)), (.d (.flt .f64 0)), (.d (.str (bs []))), (.full [])] [(0, (1, (.c (.d (.int .i64 17)))))]), (.some (59, .false))⟩,
   ⟨(.some 62), (.call0 24 [(.t 60), (.t 61)]), (.some (59, .false))⟩,
   ⟨(.some 63), (.not (.t 62)), (.some (59, .false))⟩,
   ⟨(.some 64), (.pick (.t 59) (.c (.d (.bool .true))) (.t 63)), (.some (54, .true))⟩,
   ⟨(.some 65), (.pick (.t 54) (.t 64) (.c (.d (.bool .false)))), .none⟩])
 c7_10)
 c7_12))
abbrev c7_8 : PCode :=
 (.keep [4, 5, 11, 12, 13] (.seq (.region [⟨(.some 42), (.load .true 9 (.t 11) .false), .none⟩,
   ⟨(.some 43), (.faddr 7 (.t 5)), .none⟩,
   ⟨(.some 44), (.load .true 8 (.t 43) .false), .none⟩,
   ⟨(.some 45), (.load .true 4 (.t 13) .false), .none⟩,
   ⟨(.some 46), (.call0 13 [(.t 42), (.t 44), (.t 45)]), .none⟩,
   ⟨(.some 41), (.mov (.t 46)), .none⟩,
   ⟨(.some 47), (.ext (.t 41) 0), .none⟩,
   ⟨(.some 48), (.ext (.t 41) 1), .none⟩,
   ⟨(.some 14), (.alloc [(.d (.int .i64 0)), (.d (.int .i64 0)), (.d (.int .i64 0)), (.d (.int .i64 0)), (.d (.int .i64 0)), (.d (.int .i64 0)), (.d (.int .i64 0)), (.d (.int .i64 0))]), .none⟩,
   ⟨(.some 15), (.alloc [(.d (.int .i64 0)), (.d (.int .i64 0)), (.d (.int .i64 0)), (.d (.flt .f64 0)), (.d (.str (bs []))), (.full [])]), .none⟩,
   ⟨.none, (.store 8 (.t 14) (.t 47)), .none⟩,
   ⟨.none, (.store 6 (.t 15) (.t 48)), .none⟩])
 c7_9))
abbrev c7_7 : PCode :=
 (.keep [1, 2, 3, 4, 5, 11, 12] (.seq (.region [⟨(.some 36), (.load .true 4 (.t 12) .false), .none⟩,
   ⟨(.some 37), (.mov (.t 1)), .none⟩,
   ⟨(.some 38), (.mov (.t 2)), .none⟩,
   ⟨(.some 39), (.mov (.t 3)), .none⟩,
   ⟨(.some 40), (.call0 28 [(.t 36), (.t 37), (.t 38), (.t 39), (.c (.d (.flt .f64 4609434218613702656))), (.c (.d (.str (bs [120, 120]))))]), .none⟩,
   ⟨(.some 13), (.alloc [(.d (.int .i64 0)), (.d (.flt .f64 0)), (.d (.str (bs []))), (.full [])]), .none⟩,
   ⟨.none, (.store 4 (.t 13) (.t 40)), .none⟩])
 c7_8))
abbrev c7_6 : PCode :=
 (.keep [1, 2, 3, 4, 5] (.seq (.region [⟨(.some 32), (.load .true 16 (.t 5) .false), .none⟩,
   ⟨(.some 33), (.call0 15 [(.t 32)]), .none⟩,
   ⟨(.some 31), (.mov (.t 33)), .none⟩,
   ⟨(.some 34), (.ext (.t 31) 0), .none⟩,
   ⟨(.some 35), (.ext (.t 31) 1), .none⟩,
   ⟨(.some 11), (.alloc [(.d (.int .u8 0)), (.d (.int .i64 0)), (.full []), (.full []), (.d (.int .u8 0)), (.d (.int .i64 0)), (.full []), (.full []), (.full [])]), .none⟩,
   ⟨(.some 12), (.alloc [(.d (.int .i64 0)), (.d (.flt .f64 0)), (.d (.str (bs []))), (.full [])]), .none⟩,
   ⟨.none, (.store 9 (.t 11) (.t 34)), .none⟩,
   ⟨.none, (.store 4 (.t 12) (.t 35)), .none⟩])
 c7_7))
abbrev c7_3 : PCode :=
 (.keep [1, 2, 3, 4, 5] (.seq (.seq (.region [⟨(.some 18), (.load .true 16 (.t 5) .false), .none⟩,
   ⟨(.some 19), (.call0 14 [(.t 18)]), .none⟩,
   ⟨(.some 20), (.not (.t 19)), .none⟩,
   ⟨(.some 21), (.mov (.t 20)), .none⟩,
   ⟨(.some 22), (.mov (.t 1)), (.some (21, .false))⟩,
   ⟨(.some 23), (.len (.t 22)), (.some (21, .false))⟩,
   ⟨(.some 24), (.bin .gtr (.t 23) (.c (.d (.int .i64 10)))), (.some (21, .false))⟩,
   ⟨(.some 25), (.pick (.t 21) (.c (.d (.bool .true))) (.t 24)), .none⟩,
   ⟨(.some 26), (.mov (.t 25)), .none⟩,
   ⟨(.some 27), (.mov (.t 4)), (.some (26, .false))⟩,
   ⟨(.some 28), (.len (.t 27)), (.some (26, .false))⟩,
   ⟨(.some 29), (.bin .gtr (.t 28) (.c (.d (.int .i64 40)))), (.some (26, .false))⟩,
   ⟨(.some 30), (.pick (.t 26) (.c (.d (.bool .true))) (.t 29)), .none⟩])
 c7_4)
 c7_6))
abbrev c7_0 : PCode :=
 (.seq (.seq (.region [⟨(.some 16), (.call0 9 []), .none⟩,
   ⟨(.some 17), (.not (.t 16)), .none⟩])
 c7_1)
 c7_3)
def c7 : PFun := ⟨
 (.seq (.region [⟨(.some 5), (.box 16 (.t 0)), .none⟩,
   ⟨(.some 10), (.mov (.c (.d (.bool .false)))), .none⟩])
 c7_0),
 5, 97, [(.tmp 10)]⟩

theorem e7 : entered Try.prog 7 = true := by kernel_rfl
theorem k7 : compFun Try.prog (fun _ => 0) 7 = some c7.er := by kernel_rfl

/-- prompter/prompterlaw11.PlayLoops -/
abbrev c8_2 : PCode :=
 (.seq (.region [⟨(.some 6), (.mov (.c (.d (.bool .false)))), .none⟩])
 .ret)
abbrev c8_1 : PCode :=
 (.cond (.t 20)
  c8_2
  .skip)
abbrev c8_5 : PCode :=
 (.seq (.region [⟨(.some 6), (.mov (.c (.d (.bool .true)))), .none⟩])
 .ret)
abbrev c8_4 : PCode :=
 (.cond (.t 28)
  c8_5
  .skip)
abbrev c8_12 : PCode :=
 (.region [⟨(.some 49), (.mov (.t 7)), .none⟩,
   ⟨(.some 50), (.load .true 5 (.t 9) .false), .none⟩,
   ⟨(.some 51), (.bsl 5 [(.t 50)]), .none⟩,
   ⟨(.some 52), (.app 5 6 (.t 49) (.t 51)), .none⟩,
   ⟨(.some 7), (.mov (.t 52)), .none⟩])
abbrev c8_11 : PCode :=
 (.cond (.t 48)
  c8_12
  .skip)
abbrev c8_10 : PCode :=
 (.keep [1, 5, 7, 9, 30, 31, 32] (.seq (.region [⟨(.some 36), (.faddr 0 (.t 9)), .none⟩,
   ⟨(.some 37), (.load .false 1 (.t 36) .false), .none⟩,
   ⟨(.some 38), (.bin .neq (.t 37) (.c (.d (.int .u8 9)))), .none⟩,
   ⟨(.some 39), (.mov (.t 38)), .none⟩,
   ⟨(.some 40), (.faddr 0 (.t 9)), (.some (39, .true))⟩,
   ⟨(.some 41), (.load .false 1 (.t 40) .false), (.some (39, .true))⟩,
   ⟨(.some 42), (.bin .neq (.t 41) (.c (.d (.int .u8 8)))), (.some (39, .true))⟩,
   ⟨(.some 43), (.pick (.t 39) (.t 42) (.c (.d (.bool .false)))), .none⟩,
   ⟨(.some 44), (.mov (.t 43)), .none⟩,
   ⟨(.some 45), (.mov (.t 7)), (.some (44, .true))⟩,
   ⟨(.some 46), (.len (.t 45)), (.some (44, .true))⟩,
   ⟨(.some 47), (.bin .lss (.t 46) (.c (.d (.int .i64 4)))), (.some (44, .true))⟩,
   ⟨(.some 48), (.pick (.t 44) (.t 47) (.c (.d (.bool .false)))), .none⟩])
 c8_11))
abbrev c8_9 : PCode :=
 (.block 1 (.seq (.region [⟨(.some 34), (.iaddr 5 (.t 30) (.t 32)), .none⟩,
   ⟨(.some 35), (.load .true 5 (.t 34) .false), .none⟩,
   ⟨(.some 9), (.alloc [(.d (.int .u8 0)), (.d (.int .u8 0)), (.d (.int .u8 0)), (.d (.int .u8 0)), (.d (.int .i16 0))]), .none⟩,
   ⟨.none, (.store 5 (.t 9) (.t 35)), .none⟩])
 c8_10))
abbrev c8_8 : PCode :=
 (.keep [1, 5, 7, 30, 31, 32] (.block 0 (.loop (.some [32, 7, 1, 5, 30, 31]) (.seq (.region [⟨(.some 33), (.bin .lss (.t 32) (.t 31)), .none⟩])
 (.seq (.cond (.t 33)
  .skip
  (.exit 0))
 (.seq c8_9
 (.region [⟨(.some 53), (.bin .add (.t 32) (.c (.d (.int .i64 1)))), .none⟩,
   ⟨(.some 32), (.mov (.t 53)), .none⟩])))))))
abbrev c8_15 : PCode :=
 (.seq (.region [⟨(.some 6), (.mov (.c (.d (.bool .true)))), .none⟩])
 .ret)
abbrev c8_14 : PCode :=
 (.cond (.t 56)
  c8_15
  .skip)
abbrev c8_21 : PCode :=
 (.block 3 (.region [⟨(.some 73), (.mov (.t 12)), .none⟩,
   ⟨(.some 74), (.mov (.t 7)), .none⟩,
   ⟨(.some 75), (.app 5 6 (.t 73) (.t 74)), .none⟩,
   ⟨(.some 12), (.mov (.t 75)), .none⟩]))
abbrev c8_20 : PCode :=
 (.block 2 (.loop (.some [71, 12, 5, 7, 11, 70]) (.seq (.region [⟨(.some 72), (.bin .lss (.t 71) (.t 70)), .none⟩])
 (.seq (.cond (.t 72)
  .skip
  (.exit 2))
 (.seq c8_21
 (.region [⟨(.some 76), (.bin .add (.t 71) (.c (.d (.int .i64 1)))), .none⟩,
   ⟨(.some 71), (.mov (.t 76)), .none⟩]))))))
abbrev c8_27 : PCode :=
 (.keep [15, 16, 17, 18] (.seq (.region [⟨(.some 102), (.load .true 8 (.t 15) .false), .none⟩,
   ⟨(.some 103), (.load .true 8 (.t 17) .false), .none⟩,
   ⟨(.some 104), (.eqAgg .false [1, 1, 1, 1, 1, 1, 1, 1] (.t 102) (.t 103)), .none⟩,
   ⟨(.some 105), (.mov (.t 104)), .none⟩,
   ⟨(.some 106), (.load .true 6 (.t 16) .false), (.some (105, .true))⟩,
   ⟨(.some 107), (.load .true 6 (.t 18) .false), (.some (105, .true))⟩,
   ⟨(.some 108), (.call0 24 [(.t 106), (.t 107)]), (.some (105, .true))⟩,
   ⟨(.some 109), (.pick (.t 105) (.t 108) (.c (.d (.bool .false)))), .none⟩,
   ⟨(.some 6), (.mov (.t 109)), .none⟩])
 .ret))
abbrev c8_26 : PCode :=
 (.keep [5, 13, 14, 15, 16] (.seq (.region [⟨(.some 95), (.load .true 9 (.t 13) .false), .none⟩,
   ⟨(.some 96), (.faddr 7 (.t 5)), .none⟩,
   ⟨(.some 97), (.load .true 8 (.t 96) .false), .none⟩,
   ⟨(.some 98), (.load .true 4 (.t 14) .false), .none⟩,
   ⟨(.some 99), (.call0 13 [(.t 95), (.t 97), (.t 98)]), .none⟩,
   ⟨(.some 94), (.mov (.t 99)), .none⟩,
   ⟨(.some 100), (.ext (.t 94) 0), .none⟩,
   ⟨(.some 101), (.ext (.t 94) 1), .none⟩,
   ⟨(.some 17), (.alloc [(.d (.int .i64 0)), (.d (.int .i64 0)), (.d (.int .i64 0)), (.d (.int .i64 0)), (.d (.int .i64 0)), (.d (.int .i64 0)), (.d (.int .i64 0)), (.d (.int .i64 0))]), .none⟩,
   ⟨(.some 18), (.alloc [(.d (.int .i64 0)), (.d (.int .i64 0)), (.d (.int .i64 0)), (.d (.flt .f64 0)), (.d (.str (bs []))), (.full [])]), .none⟩,
   ⟨.none, (.store 8 (.t 17) (.t 100)), .none⟩,
   ⟨.none, (.store 6 (.t 18) (.t 101)), .none⟩])
 c8_27))
abbrev c8_25 : PCode :=
 (.keep [5, 12, 13, 14, 15, 16] (.seq (.region [⟨(.some 92), (.mov (.t 12)), .none⟩,
   ⟨(.some 93), (.faddr 8 (.t 13)), .none⟩,
   ⟨.none, (.store 1 (.t 93) (.t 92)), .none⟩])
 c8_26))
abbrev c8_24 : PCode :=
 (.keep [5, 12, 13, 14] (.seq (.region [⟨(.some 85), (.load .true 9 (.t 13) .false), .none⟩,
   ⟨(.some 86), (.faddr 7 (.t 5)), .none⟩,
   ⟨(.some 87), (.load .true 8 (.t 86) .false), .none⟩,
   ⟨(.some 88), (.load .true 4 (.t 14) .false), .none⟩,
   ⟨(.some 89), (.call0 13 [(.t 85), (.t 87), (.t 88)]), .none⟩,
   ⟨(.some 84), (.mov (.t 89)), .none⟩,
   ⟨(.some 90), (.ext (.t 84) 0), .none⟩,
   ⟨(.some 91), (.ext (.t 84) 1), .none⟩,
   ⟨(.some 15), (.alloc [(.d (.int .i64 0)), (.d (.int .i64 0)), (.d (.int .i64 0)), (.d (.int .i64 0)), (.d (.int .i64 0)), (.d (.int .i64 0)), (.d (.int .i64 0)), (.d (.int .i64 0))]), .none⟩,
   ⟨(.some 16), (.alloc [(.d (.int .i64 0)), (.d (.int .i64 0)), (.d (.int .i64 0)), (.d (.flt .f64 0)), (.d (.str (bs []))), (.full [])]), .none⟩,
   ⟨.none, (.store 8 (.t 15) (.t 90)), .none⟩,
   ⟨.none, (.store 6 (.t 16) (.t 91)), .none⟩])
 c8_25))
abbrev c8_23 : PCode :=
 (.keep [5, 11, 12, 13, 14] (.seq (.region [⟨(.some 82), (.mov (.t 11)), .none⟩,
   ⟨(.some 83), (.faddr 8 (.t 13)), .none⟩,
   ⟨.none, (.store 1 (.t 83) (.t 82)), .none⟩])
 c8_24))
abbrev c8_22 : PCode :=
 (.seq (.region [⟨(.some 78), (.load .true 16 (.t 5) .false), .none⟩,
   ⟨(.some 79), (.call0 15 [(.t 78)]), .none⟩,
   ⟨(.some 77), (.mov (.t 79)), .none⟩,
   ⟨(.some 80), (.ext (.t 77) 0), .none⟩,
   ⟨(.some 81), (.ext (.t 77) 1), .none⟩,
   ⟨(.some 13), (.alloc [(.d (.int .u8 0)), (.d (.int .i64 0)), (.full []), (.full []), (.d (.int .u8 0)), (.d (.int .i64 0)), (.full []), (.full []), (.full [])]), .none⟩,
   ⟨(.some 14), (.alloc [(.d (.int .i64 0)), (.d (.flt .f64 0)), (.d (.str (bs []))), (.full [])]), .none⟩,
   ⟨.none, (.store 9 (.t 13) (.t 80)), .none⟩,
   ⟨.none, (.store 4 (.t 14) (.t 81)), .none⟩])
 c8_23)
abbrev c8_19 : PCode :=
 (.seq (.seq (.region [⟨(.some 70), (.mov (.t 10)), .none⟩,
   ⟨(.some 71), (.mov (.c (.d (.int .i64 0)))), .none⟩])
 c8_20)
 c8_22)
abbrev c8_18 : PCode :=
 (.keep [5, 7, 10, 11] (.seq (.region [⟨(.some 12), (.mov (.c (.full []))), .none⟩])
 c8_19))
abbrev c8_17 : PCode :=
 (.keep [5, 7, 10] (.seq (.region [⟨(.some 61), (.mov (.t 7)), .none⟩,
   ⟨(.some 62), (.len (.t 61)), .none⟩,
   ⟨(.some 63), (.cvt .u8 (.t 62)), .none⟩,
   ⟨(.some 64), (.mov (.t 10)), .none⟩,
   ⟨(.some 65), (.cvt .i16 (.t 64)), .none⟩,
   ⟨(.some 66), (.bld [(.d (.int .u8 0)), (.d (.int .u8 0)), (.d (.int .u8 0)), (.d (.int .u8 0)), (.d (.int .i16 0))] [(0, (1, (.c (.d (.int .u8 9))))), (3, (1, (.t 63))), (4, (1, (.t 65)))]), .none⟩,
   ⟨(.some 67), (.bsl 5 [(.t 66)]), .none⟩,
   ⟨(.some 68), (.mov (.t 7)), .none⟩,
   ⟨(.some 69), (.app 5 6 (.t 67) (.t 68)), .none⟩,
   ⟨(.some 11), (.mov (.t 69)), .none⟩])
 c8_18))
abbrev c8_16 : PCode :=
 (.keep [1, 5, 7] (.seq (.region [⟨(.some 57), (.mov (.t 1)), .none⟩,
   ⟨(.some 58), (.bin .rem (.t 57) (.c (.d (.int .u8 5)))), .none⟩,
   ⟨(.some 59), (.cvt .i64 (.t 58)), .none⟩,
   ⟨(.some 60), (.bin .add (.c (.d (.int .i64 1))) (.t 59)), .none⟩,
   ⟨(.some 10), (.mov (.t 60)), .none⟩])
 c8_17))
abbrev c8_13 : PCode :=
 (.seq (.seq (.region [⟨(.some 54), (.mov (.t 7)), .none⟩,
   ⟨(.some 55), (.len (.t 54)), .none⟩,
   ⟨(.some 56), (.bin .eql (.t 55) (.c (.d (.int .i64 0)))), .none⟩])
 c8_14)
 c8_16)
abbrev c8_7 : PCode :=
 (.seq (.seq (.region [⟨(.some 29), (.mov (.t 0)), .none⟩,
   ⟨(.some 30), (.call0 11 [(.t 29)]), .none⟩,
   ⟨(.some 31), (.len (.t 30)), .none⟩,
   ⟨(.some 32), (.mov (.c (.d (.int .i64 0)))), .none⟩])
 c8_8)
 c8_13)
abbrev c8_6 : PCode :=
 (.keep [0, 1, 5] (.seq (.region [⟨(.some 7), (.mov (.c (.full []))), .none⟩])
 c8_7))
abbrev c8_3 : PCode :=
 (.keep [0, 1, 5] (.seq (.seq (.region [⟨(.some 21), (.mov (.t 0)), .none⟩,
   ⟨(.some 22), (.len (.t 21)), .none⟩,
   ⟨(.some 23), (.bin .gtr (.t 22) (.c (.d (.int .i64 20)))), .none⟩,
   ⟨(.some 24), (.mov (.t 23)), .none⟩,
   ⟨(.some 25), (.load .true 16 (.t 5) .false), (.some (24, .false))⟩,
   ⟨(.some 26), (.call0 14 [(.t 25)]), (.some (24, .false))⟩,
   ⟨(.some 27), (.not (.t 26)), (.some (24, .false))⟩,
   ⟨(.some 28), (.pick (.t 24) (.c (.d (.bool .true))) (.t 27)), .none⟩])
 c8_4)
 c8_6))
abbrev c8_0 : PCode :=
 (.seq (.seq (.region [⟨(.some 19), (.call0 9 []), .none⟩,
   ⟨(.some 20), (.not (.t 19)), .none⟩])
 c8_1)
 c8_3)
def c8 : PFun := ⟨
 (.seq (.region [⟨(.some 5), (.box 16 (.t 2)), .none⟩,
   ⟨(.some 6), (.mov (.c (.d (.bool .false)))), .none⟩])
 c8_0),
 3, 110, [(.tmp 6)]⟩

theorem e8 : entered Try.prog 8 = true := by kernel_rfl
theorem k8 : compFun Try.prog (fun _ => 0) 8 = some c8.er := by kernel_rfl

/-- prompter/prompterlaw11.PlayJoins -/
abbrev c3_2 : PCode :=
 (.seq (.region [⟨(.some 6), (.mov (.c (.d (.bool .false)))), .none⟩])
 .ret)
abbrev c3_1 : PCode :=
 (.cond (.t 18)
  c3_2
  .skip)
abbrev c3_5 : PCode :=
 (.seq (.region [⟨(.some 6), (.mov (.c (.d (.bool .true)))), .none⟩])
 .ret)
abbrev c3_4 : PCode :=
 (.cond (.t 26)
  c3_5
  .skip)
abbrev c3_11 : PCode :=
 (.seq (.region [⟨(.some 6), (.mov (.c (.d (.bool .true)))), .none⟩])
 .ret)
abbrev c3_10 : PCode :=
 (.cond (.t 40)
  c3_11
  .skip)
abbrev c3_17 : PCode :=
 (.seq (.region [⟨(.some 68), (.faddr 0 (.t 16)), .none⟩,
   ⟨(.some 69), (.load .false 1 (.t 68) .false), .none⟩,
   ⟨(.some 70), (.faddr 0 (.t 12)), .none⟩,
   ⟨(.some 71), (.load .false 1 (.t 70) .false), .none⟩,
   ⟨(.some 72), (.bin .eql (.t 69) (.t 71)), .none⟩,
   ⟨(.some 73), (.mov (.t 72)), .none⟩,
   ⟨(.some 74), (.faddr 1 (.t 16)), (.some (73, .true))⟩,
   ⟨(.some 75), (.load .false 1 (.t 74) .false), (.some (73, .true))⟩,
   ⟨(.some 76), (.faddr 1 (.t 12)), (.some (73, .true))⟩,
   ⟨(.some 77), (.load .false 1 (.t 76) .false), (.some (73, .true))⟩,
   ⟨(.some 78), (.bin .eql (.t 75) (.t 77)), (.some (73, .true))⟩,
   ⟨(.some 79), (.pick (.t 73) (.t 78) (.c (.d (.bool .false)))), .none⟩,
   ⟨(.some 80), (.mov (.t 79)), .none⟩,
   ⟨(.some 81), (.load .true 8 (.t 15) .false), (.some (80, .true))⟩,
   ⟨(.some 82), (.load .true 8 (.t 5) .false), (.some (80, .true))⟩,
   ⟨(.some 83), (.eqAgg .false [1, 1, 1, 1, 1, 1, 1, 1] (.t 81) (.t 82)), (.some (80, .true))⟩,
   ⟨(.some 84), (.pick (.t 80) (.t 83) (.c (.d (.bool .false)))), .none⟩,
   ⟨(.some 6), (.mov (.t 84)), .none⟩])
 .ret)
abbrev c3_16 : PCode :=
 (.cond (.t 67)
  c3_17
  .skip)
abbrev c3_20 : PCode :=
 (.seq (.region [⟨(.some 88), (.faddr 0 (.t 16)), .none⟩,
   ⟨(.some 89), (.load .false 1 (.t 88) .false), .none⟩,
   ⟨(.some 90), (.faddr 0 (.t 14)), .none⟩,
   ⟨(.some 91), (.load .false 1 (.t 90) .false), .none⟩,
   ⟨(.some 92), (.bin .eql (.t 89) (.t 91)), .none⟩,
   ⟨(.some 93), (.mov (.t 92)), .none⟩,
   ⟨(.some 94), (.faddr 1 (.t 16)), (.some (93, .true))⟩,
   ⟨(.some 95), (.load .false 1 (.t 94) .false), (.some (93, .true))⟩,
   ⟨(.some 96), (.faddr 1 (.t 14)), (.some (93, .true))⟩,
   ⟨(.some 97), (.load .false 1 (.t 96) .false), (.some (93, .true))⟩,
   ⟨(.some 98), (.bin .eql (.t 95) (.t 97)), (.some (93, .true))⟩,
   ⟨(.some 99), (.pick (.t 93) (.t 98) (.c (.d (.bool .false)))), .none⟩,
   ⟨(.some 100), (.mov (.t 99)), .none⟩,
   ⟨(.some 101), (.load .true 8 (.t 15) .false), (.some (100, .true))⟩,
   ⟨(.some 102), (.load .true 8 (.t 5) .false), (.some (100, .true))⟩,
   ⟨(.some 103), (.eqAgg .false [1, 1, 1, 1, 1, 1, 1, 1] (.t 101) (.t 102)), (.some (100, .true))⟩,
   ⟨(.some 104), (.pick (.t 100) (.t 103) (.c (.d (.bool .false)))), .none⟩,
   ⟨(.some 6), (.mov (.t 104)), .none⟩])
 .ret)
abbrev c3_19 : PCode :=
 (.cond (.t 87)
  c3_20
  .skip)
abbrev c3_21 : PCode :=
 (.keep [13, 15, 16] (.seq (.region [⟨(.some 105), (.faddr 0 (.t 16)), .none⟩,
   ⟨(.some 106), (.load .false 1 (.t 105) .false), .none⟩,
   ⟨(.some 107), (.bin .eql (.t 106) (.c (.d (.int .i64 0)))), .none⟩,
   ⟨(.some 108), (.mov (.t 107)), .none⟩,
   ⟨(.some 109), (.load .true 8 (.t 15) .false), (.some (108, .true))⟩,
   ⟨(.some 110), (.load .true 8 (.t 13) .false), (.some (108, .true))⟩,
   ⟨(.some 111), (.eqAgg .false [1, 1, 1, 1, 1, 1, 1, 1] (.t 109) (.t 110)), (.some (108, .true))⟩,
   ⟨(.some 112), (.pick (.t 108) (.t 111) (.c (.d (.bool .false)))), .none⟩,
   ⟨(.some 6), (.mov (.t 112)), .none⟩])
 .ret))
abbrev c3_18 : PCode :=
 (.keep [5, 13, 14, 15, 16] (.seq (.seq (.region [⟨(.some 85), (.faddr 0 (.t 14)), .none⟩,
   ⟨(.some 86), (.load .false 1 (.t 85) .false), .none⟩,
   ⟨(.some 87), (.bin .neq (.t 86) (.c (.d (.int .i64 0)))), .none⟩])
 c3_19)
 c3_21))
abbrev c3_15 : PCode :=
 (.keep [5, 12, 13, 14, 15, 16] (.seq (.seq (.region [⟨(.some 65), (.faddr 0 (.t 12)), .none⟩,
   ⟨(.some 66), (.load .false 1 (.t 65) .false), .none⟩,
   ⟨(.some 67), (.bin .neq (.t 66) (.c (.d (.int .i64 0)))), .none⟩])
 c3_16)
 c3_18))
abbrev c3_14 : PCode :=
 (.keep [5, 10, 12, 13, 14] (.seq (.region [⟨(.some 58), (.mov (.t 10)), .none⟩,
   ⟨(.some 59), (.bld [(.d (.int .u8 0)), (.d (.int .i64 0)), (.full []), (.full []), (.d (.int .u8 0)), (.d (.int .i64 0)), (.full []), (.full []), (.full [])] [(8, (1, (.t 58)))]), .none⟩,
   ⟨(.some 60), (.load .true 8 (.t 5) .false), .none⟩,
   ⟨(.some 61), (.bld [(.d (.int .i64 0)), (.d (.flt .f64 0)), (.d (.str (bs []))), (.full [])] []), .none⟩,
   ⟨(.some 62), (.call0 13 [(.t 59), (.t 60), (.t 61)]), .none⟩,
   ⟨(.some 57), (.mov (.t 62)), .none⟩,
   ⟨(.some 63), (.ext (.t 57) 0), .none⟩,
   ⟨(.some 64), (.ext (.t 57) 1), .none⟩,
   ⟨(.some 15), (.alloc [(.d (.int .i64 0)), (.d (.int .i64 0)), (.d (.int .i64 0)), (.d (.int .i64 0)), (.d (.int .i64 0)), (.d (.int .i64 0)), (.d (.int .i64 0)), (.d (.int .i64 0))]), .none⟩,
   ⟨(.some 16), (.alloc [(.d (.int .i64 0)), (.d (.int .i64 0)), (.d (.int .i64 0)), (.d (.flt .f64 0)), (.d (.str (bs []))), (.full [])]), .none⟩,
   ⟨.none, (.store 8 (.t 15) (.t 63)), .none⟩,
   ⟨.none, (.store 6 (.t 16) (.t 64)), .none⟩])
 c3_15))
abbrev c3_13 : PCode :=
 (.keep [5, 9, 10, 11, 12] (.seq (.region [⟨(.some 50), (.mov (.t 9)), .none⟩,
   ⟨(.some 51), (.bld [(.d (.int .u8 0)), (.d (.int .i64 0)), (.full []), (.full []), (.d (.int .u8 0)), (.d (.int .i64 0)), (.full []), (.full []), (.full [])] [(8, (1, (.t 50)))]), .none⟩,
   ⟨(.some 52), (.load .true 8 (.t 11) .false), .none⟩,
   ⟨(.some 53), (.bld [(.d (.int .i64 0)), (.d (.flt .f64 0)), (.d (.str (bs []))), (.full [])] []), .none⟩,
   ⟨(.some 54), (.call0 13 [(.t 51), (.t 52), (.t 53)]), .none⟩,
   ⟨(.some 49), (.mov (.t 54)), .none⟩,
   ⟨(.some 55), (.ext (.t 49) 0), .none⟩,
   ⟨(.some 56), (.ext (.t 49) 1), .none⟩,
   ⟨(.some 13), (.alloc [(.d (.int .i64 0)), (.d (.int .i64 0)), (.d (.int .i64 0)), (.d (.int .i64 0)), (.d (.int .i64 0)), (.d (.int .i64 0)), (.d (.int .i64 0)), (.d (.int .i64 0))]), .none⟩,
   ⟨(.some 14), (.alloc [(.d (.int .i64 0)), (.d (.int .i64 0)), (.d (.int .i64 0)), (.d (.flt .f64 0)), (.d (.str (bs []))), (.full [])]), .none⟩,
   ⟨.none, (.store 8 (.t 13) (.t 55)), .none⟩,
   ⟨.none, (.store 6 (.t 14) (.t 56)), .none⟩])
 c3_14))
abbrev c3_12 : PCode :=
 (.keep [5, 8, 9, 10] (.seq (.region [⟨(.some 42), (.mov (.t 8)), .none⟩,
   ⟨(.some 43), (.bld [(.d (.int .u8 0)), (.d (.int .i64 0)), (.full []), (.full []), (.d (.int .u8 0)), (.d (.int .i64 0)), (.full []), (.full []), (.full [])] [(8, (1, (.t 42)))]), .none⟩,
   ⟨(.some 44), (.load .true 8 (.t 5) .false), .none⟩,
   ⟨(.some 45), (.bld [(.d (.int .i64 0)), (.d (.flt .f64 0)), (.d (.str (bs []))), (.full [])] []), .none⟩,
   ⟨(.some 46), (.call0 13 [(.t 43), (.t 44), (.t 45)]), .none⟩,
   ⟨(.some 41), (.mov (.t 46)), .none⟩,
   ⟨(.some 47), (.ext (.t 41) 0), .none⟩,
   ⟨(.some 48), (.ext (.t 41) 1), .none⟩,
   ⟨(.some 11), (.alloc [(.d (.int .i64 0)), (.d (.int .i64 0)), (.d (.int .i64 0)), (.d (.int .i64 0)), (.d (.int .i64 0)), (.d (.int .i64 0)), (.d (.int .i64 0)), (.d (.int .i64 0))]), .none⟩,
   ⟨(.some 12), (.alloc [(.d (.int .i64 0)), (.d (.int .i64 0)), (.d (.int .i64 0)), (.d (.flt .f64 0)), (.d (.str (bs []))), (.full [])]), .none⟩,
   ⟨.none, (.store 8 (.t 11) (.t 47)), .none⟩,
   ⟨.none, (.store 6 (.t 12) (.t 48)), .none⟩])
 c3_13))
abbrev c3_9 : PCode :=
 (.keep [5, 8, 9, 10] (.seq (.seq (.region [⟨(.some 38), (.mov (.t 10)), .none⟩,
   ⟨(.some 39), (.call0 12 [(.t 38)]), .none⟩,
   ⟨(.some 40), (.bin .neq (.t 39) (.c (.d (.int .i64 0)))), .none⟩])
 c3_10)
 c3_12))
abbrev c3_8 : PCode :=
 (.keep [5, 8, 9] (.seq (.region [⟨(.some 33), (.bsl 5 []), .none⟩,
   ⟨(.some 34), (.mov (.t 8)), .none⟩,
   ⟨(.some 35), (.app 5 6 (.t 33) (.t 34)), .none⟩,
   ⟨(.some 36), (.mov (.t 9)), .none⟩,
   ⟨(.some 37), (.app 5 6 (.t 35) (.t 36)), .none⟩,
   ⟨(.some 10), (.mov (.t 37)), .none⟩])
 c3_9))
abbrev c3_7 : PCode :=
 (.seq (.region [⟨(.some 27), (.mov (.t 7)), .none⟩,
   ⟨(.some 28), (.mov (.t 0)), .none⟩,
   ⟨(.some 29), (.callv0 (.t 27) [(.t 28)]), .none⟩,
   ⟨(.some 30), (.mov (.t 7)), .none⟩,
   ⟨(.some 31), (.mov (.t 1)), .none⟩,
   ⟨(.some 32), (.callv0 (.t 30) [(.t 31)]), .none⟩,
   ⟨(.some 8), (.mov (.t 29)), .none⟩,
   ⟨(.some 9), (.mov (.t 32)), .none⟩])
 c3_8)
abbrev c3_6 : PCode :=
 (.keep [0, 1, 5] (.seq (.region [⟨(.some 7), (.mov (.c (.d (.fn 10 [] [])))), .none⟩])
 c3_7))
abbrev c3_3 : PCode :=
 (.keep [0, 1, 5] (.seq (.seq (.region [⟨(.some 19), (.mov (.t 0)), .none⟩,
   ⟨(.some 20), (.len (.t 19)), .none⟩,
   ⟨(.some 21), (.bin .gtr (.t 20) (.c (.d (.int .i64 10)))), .none⟩,
   ⟨(.some 22), (.mov (.t 21)), .none⟩,
   ⟨(.some 23), (.mov (.t 1)), (.some (22, .false))⟩,
   ⟨(.some 24), (.len (.t 23)), (.some (22, .false))⟩,
   ⟨(.some 25), (.bin .gtr (.t 24) (.c (.d (.int .i64 10)))), (.some (22, .false))⟩,
   ⟨(.some 26), (.pick (.t 22) (.c (.d (.bool .true))) (.t 25)), .none⟩])
 c3_4)
 c3_6))
abbrev c3_0 : PCode :=
 (.seq (.seq (.region [⟨(.some 17), (.call0 9 []), .none⟩,
   ⟨(.some 18), (.not (.t 17)), .none⟩])
 c3_1)
 c3_3)
def c3 : PFun := ⟨
 (.seq (.region [⟨(.some 5), (.box 8 (.t 2)), .none⟩,
   ⟨(.some 6), (.mov (.c (.d (.bool .false)))), .none⟩])
 c3_0),
 3, 113, [(.tmp 6)]⟩

theorem e3 : entered Try.prog 3 = true := by kernel_rfl
theorem k3 : compFun Try.prog (fun _ => 0) 3 = some c3.er := by kernel_rfl

/-- prompter/prompterlaw11.PlayJoins$1 -/
abbrev c10_7 : PCode :=
 (.region [⟨(.some 24), (.faddr 3 (.t 5)), .none⟩,
   ⟨(.some 25), (.load .false 1 (.t 24) .false), .none⟩,
   ⟨(.some 26), (.bin .rem (.t 25) (.c (.d (.int .u8 8)))), .none⟩,
   ⟨(.some 27), (.faddr 3 (.t 5)), .none⟩,
   ⟨.none, (.store 1 (.t 27) (.t 26)), .none⟩])
abbrev c10_6 : PCode :=
 (.cond (.t 23)
  c10_7
  .skip)
abbrev c10_10 : PCode :=
 (.region [⟨(.some 36), (.faddr 0 (.t 5)), .none⟩,
   ⟨.none, (.store 1 (.t 36) (.c (.d (.int .u8 2)))), .none⟩])
abbrev c10_9 : PCode :=
 (.cond (.t 35)
  c10_10
  .skip)
abbrev c10_11 : PCode :=
 (.region [⟨(.some 37), (.mov (.t 3)), .none⟩,
   ⟨(.some 38), (.load .true 5 (.t 5) .false), .none⟩,
   ⟨(.some 39), (.bsl 5 [(.t 38)]), .none⟩,
   ⟨(.some 40), (.app 5 6 (.t 37) (.t 39)), .none⟩,
   ⟨(.some 3), (.mov (.t 40)), .none⟩])
abbrev c10_8 : PCode :=
 (.keep [3, 5, 7, 8, 9] (.seq (.seq (.region [⟨(.some 28), (.faddr 0 (.t 5)), .none⟩,
   ⟨(.some 29), (.load .false 1 (.t 28) .false), .none⟩,
   ⟨(.some 30), (.bin .eql (.t 29) (.c (.d (.int .u8 0)))), .none⟩,
   ⟨(.some 31), (.mov (.t 30)), .none⟩,
   ⟨(.some 32), (.faddr 0 (.t 5)), (.some (31, .false))⟩,
   ⟨(.some 33), (.load .false 1 (.t 32) .false), (.some (31, .false))⟩,
   ⟨(.some 34), (.bin .eql (.t 33) (.c (.d (.int .u8 11)))), (.some (31, .false))⟩,
   ⟨(.some 35), (.pick (.t 31) (.c (.d (.bool .true))) (.t 34)), .none⟩])
 c10_9)
 c10_11))
abbrev c10_5 : PCode :=
 (.keep [3, 5, 7, 8, 9] (.seq (.seq (.region [⟨(.some 21), (.faddr 0 (.t 5)), .none⟩,
   ⟨(.some 22), (.load .false 1 (.t 21) .false), .none⟩,
   ⟨(.some 23), (.bin .neq (.t 22) (.c (.d (.int .u8 9)))), .none⟩])
 c10_6)
 c10_8))
abbrev c10_4 : PCode :=
 (.keep [3, 5, 7, 8, 9] (.seq (.region [⟨(.some 13), (.faddr 1 (.t 5)), .none⟩,
   ⟨(.some 14), (.load .false 1 (.t 13) .false), .none⟩,
   ⟨(.some 15), (.bin .rem (.t 14) (.c (.d (.int .u8 8)))), .none⟩,
   ⟨(.some 16), (.faddr 2 (.t 5)), .none⟩,
   ⟨(.some 17), (.load .false 1 (.t 16) .false), .none⟩,
   ⟨(.some 18), (.bin .rem (.t 17) (.c (.d (.int .u8 8)))), .none⟩,
   ⟨(.some 19), (.faddr 1 (.t 5)), .none⟩,
   ⟨.none, (.store 1 (.t 19) (.t 15)), .none⟩,
   ⟨(.some 20), (.faddr 2 (.t 5)), .none⟩,
   ⟨.none, (.store 1 (.t 20) (.t 18)), .none⟩])
 c10_5))
abbrev c10_3 : PCode :=
 (.block 1 (.seq (.region [⟨(.some 11), (.iaddr 5 (.t 7) (.t 9)), .none⟩,
   ⟨(.some 12), (.load .true 5 (.t 11) .false), .none⟩,
   ⟨(.some 5), (.alloc [(.d (.int .u8 0)), (.d (.int .u8 0)), (.d (.int .u8 0)), (.d (.int .u8 0)), (.d (.int .i16 0))]), .none⟩,
   ⟨.none, (.store 5 (.t 5) (.t 12)), .none⟩])
 c10_4))
abbrev c10_2 : PCode :=
 (.keep [3, 7, 8, 9] (.block 0 (.loop (.some [9, 3, 7, 8]) (.seq (.region [⟨(.some 10), (.bin .lss (.t 9) (.t 8)), .none⟩])
 (.seq (.cond (.t 10)
  .skip
  (.exit 0))
 (.seq c10_3
 (.region [⟨(.some 41), (.bin .add (.t 9) (.c (.d (.int .i64 1)))), .none⟩,
   ⟨(.some 9), (.mov (.t 41)), .none⟩])))))))
abbrev c10_12 : PCode :=
 (.seq (.region [⟨(.some 42), (.mov (.t 3)), .none⟩,
   ⟨(.some 2), (.mov (.t 42)), .none⟩])
 .ret)
abbrev c10_1 : PCode :=
 (.seq (.seq (.region [⟨(.some 6), (.mov (.t 0)), .none⟩,
   ⟨(.some 7), (.call0 11 [(.t 6)]), .none⟩,
   ⟨(.some 8), (.len (.t 7)), .none⟩,
   ⟨(.some 9), (.mov (.c (.d (.int .i64 0)))), .none⟩])
 c10_2)
 c10_12)
abbrev c10_0 : PCode :=
 (.seq (.region [⟨(.some 3), (.mov (.c (.full []))), .none⟩])
 c10_1)
def c10 : PFun := ⟨
 (.seq (.region [⟨(.some 2), (.mov (.c (.full []))), .none⟩])
 c10_0),
 1, 43, [(.tmp 2)]⟩

theorem e10 : entered Try.prog 10 = true := by kernel_rfl
theorem k10 : compFun Try.prog (fun _ => 0) 10 = some c10.er := by kernel_rfl

end Go.Pv
namespace Go.Pv
open Go.Proofs
set_option maxRecDepth 100000
set_option maxHeartbeats 8000000

/-- What is played ends well, or leaves the state. -/
theorem playF_cases (tk an : KT) (p : List Ins) (S : List Int) (hS : S.length = 8) (v : VT) (hl : ∀ args b R, go p args (p.length + 1) 0 p.length (reg0 S args) = .done b R → R.length = 16) : (∃ R w, R.length = 8 ∧ playF tk an p S v = (R, 0, 0, w)) ∨ (∃ e r, e ≠ 0 ∧ playF tk an p S v = (S, e, r, .zero)) := by
  unfold playF
  split
  · exact .inr ⟨_, _, by decide, rfl⟩
  split
  · exact .inr ⟨_, _, by decide, rfl⟩
  split
  · rename_i e r h
    refine .inr ⟨_, _, ?_, rfl⟩
    have := go_fail _ _ _ _ _ _ h
    omega
  · rename_i b R h
    split
    · exact .inr ⟨_, _, by decide, rfl⟩
    · exact .inl ⟨_, _, by rw [List.length_take, hl _ _ _ h]; rfl, rfl⟩
  · exact .inl ⟨_, _, hS, rfl⟩
theorem go_len {p : List Ins} {args : List Int} : ∀ (f i to : Nat) (R : List Int) (b : Bool) (R' : List Int), go p args f i to R = .done b R' → R'.length = R.length := by
  have rp : ∀ {g : List Int → Out}, (∀ R b R', g R = .done b R' → R'.length = R.length) → ∀ (n : Nat) (R : List Int) (b : Bool) (R' : List Int), rep g n R = .done b R' → R'.length = R.length := by
    intro g h n
    induction n with
    | zero => intro R b R' he; cases he; rfl
    | succ n ih =>
      intro R b R' he
      rw [rep] at he
      split at he
      · rename_i R2 h2; exact (ih R2 b R' he).trans (h _ _ _ h2)
      · exact h _ _ _ he
  intro f
  induction f with
  | zero => intro i to R b R' h; cases h
  | succ f ih =>
    intro i to R b R' h
    rw [go] at h
    split at h
    · split at h
      · cases h
      · rename_i x hx
        split at h
        · cases h
        split at h
        · cases h; rfl
        split at h
        · cases h
        split at h
        · cases h
        split at h
        · split at h
          · rename_i R2 h2
            exact (ih _ _ _ _ _ h).trans (rp (fun R b R' => ih _ _ R b R') _ _ _ _ h2)
          · exact rp (fun R b R' => ih _ _ R b R') _ _ _ _ h
        split at h
        · split at h
          · cases h
          · exact ih _ _ _ _ _ h
        · exact (ih _ _ _ _ _ h).trans (List.length_set ..)
    · cases h; rfl

theorem sum_set {c : VT → Nat} : ∀ (l : List VT) (i : Nat) (h : i < l.length) (y : VT), ((l.set i y).map c).sum + c l[i] = (l.map c).sum + c y
  | x :: l, 0, _, y => by simp; omega
  | x :: l, i + 1, h, y => by
    have := sum_set (c := c) l i (by simpa using h) y
    simp at this ⊢
    omega
theorem leaf_count (v : VT) (what n : Int) (f : Nat) (s : ByteArray) : (v.leaf what n f s).count ≤ v.count + 1 := by
  have h0 := VT.count_eq v
  unfold VT.leaf
  split
  · rw [VT.count_eq]; simp only [VT.pj]; omega
  split
  · rw [VT.count_eq]; simp only [VT.pj]; omega
  split
  · rw [VT.count_eq]; simp only [VT.pj]; omega
  split
  · rw [VT.count_eq]; simp only [VT.pj, List.map_append, List.sum_append, List.map_cons, List.map_nil, List.sum_cons, List.sum_nil]
    have : (VT.num n).count = 1 := rfl
    omega
  · rw [VT.count_eq]; simp only [VT.pj]
    have : ((v.of.take (v.of.length / 2)).map VT.count).sum + ((v.of.drop (v.of.length / 2)).map VT.count).sum = (v.of.map VT.count).sum := by rw [← List.sum_append, ← List.map_append, List.take_append_drop]
    omega
theorem turned_count (what n : Int) (f : Nat) (s : ByteArray) : ∀ (path : List Int) (v : VT), (VT.turned what n f s path v).count ≤ v.count + 1
  | [], v => leaf_count v what n f s
  | p :: ps, v => by
    rw [VT.turned]
    split
    · exact leaf_count v what n f s
    · rename_i h0
      have hi : p.toNat % v.of.length < v.of.length := Nat.mod_lt _ (by omega)
      have h1 := turned_count what n f s ps (v.of.getD (p.toNat % v.of.length) VT.zero)
      have h2 := VT.count_eq v
      rw [VT.count_eq]
      simp only [VT.pj]
      have h3 := sum_set (c := VT.count) v.of _ hi (VT.turned what n f s ps (v.of.getD (p.toNat % v.of.length) VT.zero))
      rw [List.getD_eq_getElem?_getD, List.getElem?_eq_getElem hi, Option.getD_some] at *
      omega
theorem C24 (e r e' r' : Int) (v w : VT) (hv : v.fit) : Pure (PCalls Try.prog GG) 24 [.agg [.d (.int .i64 e), .d (.int .i64 r), .d (.int .i64 v.n), .d (.flt .f64 v.f), .d (.str v.s), .d (.sl (v.of.map VT.row))], .agg [.d (.int .i64 e'), .d (.int .i64 r'), .d (.int .i64 w.n), .d (.flt .f64 w.f), .d (.str w.s), .d (.sl (w.of.map VT.row))]] (b2 (e == e' && r == r' && VT.same v w)) := by
  have h1 := C17 v w hv
  simp only [VT.av_eq] at h1
  intro st; refine pcalls_of k24 e24 (of_decide_eq_true rfl) ?_; dsimp only [c24]; refine pstartL ?_; intro t hL; generalize hQ : pfin _ _ = Q
  (refine gor hL ?_; (repeat (clear hL; intro t hL; refine gor hL ?_))); refine po_boxA hL ?_; clear hL; intro p1 t hL
  (refine gor hL ?_; (repeat (clear hL; intro t hL; refine gor hL ?_))); refine po_boxA hL ?_; clear hL; intro p2 t hL
  refine gor hL ?_; (repeat (clear hL; intro t hL; refine gor hL ?_))
  cases he : e == e' with
  | false =>
    rw [he] at hQ
    refine gor hL ?_; (repeat (clear hL; intro t hL; refine gor hL ?_))
    rw [← hQ]
    exact pfin_pure rfl hL.le
  | true =>
    rw [he] at hQ
    refine gor hL ?_; (repeat (clear hL; intro t hL; refine gor hL ?_))
    cases hr : r == r' with
    | false =>
      rw [hr] at hQ
      refine gor hL ?_; (repeat (clear hL; intro t hL; refine gor hL ?_))
      rw [← hQ]
      exact pfin_pure rfl hL.le
    | true =>
      rw [hr] at hQ
      refine gor hL ?_; (repeat (clear hL; intro t hL; refine gor hL ?_))
      refine po_c0 (h1) ?_
      refine gor hL ?_; (repeat (clear hL; intro t hL; refine gor hL ?_))
      rw [← hQ]
      exact pfin_pure rfl hL.le
theorem C7 (x : Sm11) (hx : x.fit) (path : List Int) (hpr : ∀ y ∈ path, 0 ≤ y ∧ y ≤ 255) (what n : Int) (hw : 0 ≤ what ∧ what ≤ 255) (hn : -9223372036854775808 ≤ n ∧ n ≤ 9223372036854775807) (q : List Ins) (hq : ∀ y ∈ q, y.fit) :
    Pure (PCalls Try.prog GG) 7 [.agg x.cs, .d (u8s path), .d (.int .u8 what), .d (.int .i64 n), .d (.sl (q.map Ins.row))] (b2 true) := by
  have h1 := C14 x hx
  intro st; refine pcalls_of k7 e7 (of_decide_eq_true rfl) ?_; dsimp only [c7]; refine pstartL ?_; intro t hL; generalize hQ : pfin _ _ = Q
  (refine gor hL ?_; (repeat (clear hL; intro t hL; refine gor hL ?_))); refine po_boxA hL ?_; clear hL; intro p1 t hL
  refine gor hL ?_; (repeat (clear hL; intro t hL; refine gor hL ?_))
  refine po_c0 (C9) ?_
  refine gor hL ?_; (repeat (clear hL; intro t hL; refine gor hL ?_))
  refine po_c0 (h1) ?_
  cases hl : x.light with
  | false =>
    rw [hl] at h1
    refine gor hL ?_; (repeat (clear hL; intro t hL; refine gor hL ?_))
    rw [← hQ]
    exact pfin_pure rfl hL.le
  | true =>
    by_cases hp10 : path.length ≤ 10
    · by_cases hq40 : q.length ≤ 40
      · have e1 : decide ((path.length : Int) > 10) = false := decide_eq_false (by omega)
        have e2 : decide ((q.length : Int) > 40) = false := decide_eq_false (by omega)
        refine gor hL ?_; (repeat (clear hL; intro t hL; refine gor hL ?_))
        refine gnm ?_; rw [e1, e2]
        refine gor hL ?_; (repeat (clear hL; intro t hL; refine gor hL ?_))
        have hsm := Sm11.small hl
        obtain ⟨tk, an, p, S, l⟩ := x
        obtain ⟨s0, s1, s2, s3, s4, s5, s6, s7, rfl⟩ := len8 hx.S.1
        have hwT : WT 4 (Nd.typ 4 tk []) := .of_typ (by decide) hx.tk
        obtain ⟨t1, t2, t3⟩ := typ_le hx.tk
        obtain ⟨a1, a2, a3⟩ := typ_le hx.an
        have hlr : Rok l := hx.l.1
        have hvB : (buildV l (Nd.typ 4 tk [])).fitB 4 := buildM_few hlr hwT 20 0 0
        have vf : (buildV l (Nd.typ 4 tk [])).fit := buildV_fit hlr t1
        have hcnt : (buildV l (Nd.typ 4 tk [])).count < 2 ^ 39 := Nat.lt_trans (buildV_count l (Nat.lt_of_le_of_lt (hwT.cost 20) (by decide))) (by decide)
        have h2 := C15 ⟨tk, an, p, [s0, s1, s2, s3, s4, s5, s6, s7], l⟩ hx hl
        have hT := C28 what n 4609434218613702656 (bs [120, 120]) hw path _ vf (by omega) hpr
        have wf := (VT.turned_fit (what := what) (n := n) (f := 4609434218613702656) (s := bs [120, 120]) (by decide) hn (by decide) (by decide) path _ hvB).fit (by decide)
        have wc := turned_count what n 4609434218613702656 (bs [120, 120]) path (buildV l (Nd.typ 4 tk []))
        obtain ⟨hpc, hpt, hpl⟩ := prgM_ok (l := p) hx.p.1
        have h3 := cPlay (Nd.typ 4 tk []) (Nd.typ 4 an []) t1 a1 a2 a3 (prgM p) (fun y hy => (hpt y hy).fit) (by omega) [s0, s1, s2, s3, s4, s5, s6, s7] rfl hx.S.2 _ wf (fun _ => by omega)
        have h4 := cPlay (Nd.typ 4 tk []) (Nd.typ 4 an []) t1 a1 a2 a3 q hq (by omega) [s0, s1, s2, s3, s4, s5, s6, s7] rfl hx.S.2 _ vf (fun _ => by omega)
        have h5 := C27 (Nd.typ 4 tk []) _ t1 wf
        have h6 := C12 q hq (by omega)
        have c3 := fun h => playF_bad (tk := Nd.typ 4 tk []) (an := Nd.typ 4 an []) (S := [s0, s1, s2, s3, s4, s5, s6, s7]) (v := VT.turned what n 4609434218613702656 (bs [120, 120]) path (buildV l (Nd.typ 4 tk []))) hpc h
        have g3 := playF_cases (Nd.typ 4 tk []) (Nd.typ 4 an []) (prgM p) [s0, s1, s2, s3, s4, s5, s6, s7] rfl (VT.turned what n 4609434218613702656 (bs [120, 120]) path (buildV l (Nd.typ 4 tk []))) (fun _ _ _ h => by rw [go_len _ _ _ _ _ _ h, reg0_len rfl])
        have c4 : checkP q ≠ 0 → playF (Nd.typ 4 tk []) (Nd.typ 4 an []) q [s0, s1, s2, s3, s4, s5, s6, s7] (buildV l (Nd.typ 4 tk [])) = ([s0, s1, s2, s3, s4, s5, s6, s7], 14, 0, .zero) := fun h => by rw [playF, if_pos h]
        have g4 := playF_cases (Nd.typ 4 tk []) (Nd.typ 4 an []) q [s0, s1, s2, s3, s4, s5, s6, s7] rfl (buildV l (Nd.typ 4 tk [])) (fun _ _ _ h => by rw [go_len _ _ _ _ _ _ h, reg0_len rfl])
        simp only [Sm11.T, Sm11.A, Sm11.v] at h2
        generalize Nd.typ 4 tk [] = T at *
        generalize Nd.typ 4 an [] = A at *
        generalize buildV l T = V at *
        generalize VT.turned what n 4609434218613702656 (bs [120, 120]) path V = W at *
        generalize prgM p = pp at *
        generalize playF T A pp [s0, s1, s2, s3, s4, s5, s6, s7] W = X3 at *
        generalize playF T A q [s0, s1, s2, s3, s4, s5, s6, s7] V = X4 at *
        rw [KT.av_eq] at h5
        simp only [VT.av_eq] at h2 h3 h4 h5 hT
        refine po_c0 (h2) ?_
        refine gor hL ?_; (repeat (clear hL; intro t hL; refine gor hL ?_))
        (refine gor hL ?_; (repeat (clear hL; intro t hL; refine gor hL ?_))); (with_reducible refine po_allocL hL rfl ?_); clear hL; intro p3 t hL
        (refine gor hL ?_; (repeat (clear hL; intro t hL; refine gor hL ?_))); (with_reducible refine po_allocL hL rfl ?_); clear hL; intro p4 t hL
        refine gor hL ?_; (repeat (clear hL; intro t hL; refine gor hL ?_))
        refine po_c0 (hT) ?_
        refine gor hL ?_; (repeat (clear hL; intro t hL; refine gor hL ?_))
        (refine gor hL ?_; (repeat (clear hL; intro t hL; refine gor hL ?_))); (with_reducible refine po_allocL hL rfl ?_); clear hL; intro p5 t hL
        refine gor hL ?_; (repeat (clear hL; intro t hL; refine gor hL ?_))
        refine pjoinO (fun s' u => ∃ p6 p7 r0 r1 r2 r3 r4 r5 r6 r7 e r w, (VT.checkE T W ≠ 0 → r0 = s0 ∧ r1 = s1 ∧ r2 = s2 ∧ r3 = s3 ∧ r4 = s4 ∧ r5 = s5 ∧ r6 = s6 ∧ r7 = s7 ∧ e = 17 ∧ r = 0 ∧ w = VT.zero) ∧ s' = put (put (put (put (put (put (put (fun _ => .undef) (some 15) (ptrAt p7)) (some 14) (ptrAt p6)) (some 13) (ptrAt p5)) (some 12) (ptrAt p4)) (some 11) (ptrAt p3)) (some 5) (ptrAt p1)) (some 4) (.d (.sl (q.map Ins.row))) ∧
          Lay st [.box p7 [.d (.int .i64 e), .d (.int .i64 r), .d (.int .i64 w.n), .d (.flt .f64 w.f), .d (.str w.s), .d (.sl (w.of.map VT.row))], .box p6 (sc [r0, r1, r2, r3, r4, r5, r6, r7]), .box p5 [.d (.int .i64 W.n), .d (.flt .f64 W.f), .d (.str W.s), .d (.sl (W.of.map VT.row))], .box p4 [.d (.int .i64 V.n), .d (.flt .f64 V.f), .d (.str V.s), .d (.sl (V.of.map VT.row))], .box p3 [.d (.int .u8 T.kind), .d (.int .i64 T.most), .d (.sl (T.names.map fun s => [.str s])), .d (.sl (T.of.map KT.row)), .d (.int .u8 A.kind), .d (.int .i64 A.most), .d (.sl (A.names.map fun s => [.str s])), .d (.sl (A.of.map KT.row)), .d (.sl (pp.map Ins.row))], .box p1 (Sm11.cs ⟨tk, an, p, [s0, s1, s2, s3, s4, s5, s6, s7], l⟩)] u) ?_ ?_
        · by_cases hc : VT.checkE T W ≠ 0
          · rw [c3 hc] at h3
            refine po_c0 (h3) ?_
            refine gor hL ?_; (repeat (clear hL; intro t hL; refine gor hL ?_))
            (refine gor hL ?_; (repeat (clear hL; intro t hL; refine gor hL ?_))); (with_reducible refine po_allocL hL rfl ?_); clear hL; intro p6 t hL
            (refine gor hL ?_; (repeat (clear hL; intro t hL; refine gor hL ?_))); (with_reducible refine po_allocL hL rfl ?_); clear hL; intro p7 t hL
            refine gor hL ?_; (repeat (clear hL; intro t hL; refine gor hL ?_))
            exact ⟨_, _, .refl _ _, p6, p7, s0, s1, s2, s3, s4, s5, s6, s7, 17, 0, .zero, fun _ => ⟨rfl, rfl, rfl, rfl, rfl, rfl, rfl, rfl, rfl, rfl, rfl⟩, tr2, hL.pk⟩
          · rcases g3 with ⟨R, w, hR, g3⟩ | ⟨e, r, _, g3⟩
            · obtain ⟨r0, r1, r2, r3, r4, r5, r6, r7, rfl⟩ := len8 hR
              rw [g3] at h3
              refine po_c0 (h3) ?_
              refine gor hL ?_; (repeat (clear hL; intro t hL; refine gor hL ?_))
              (refine gor hL ?_; (repeat (clear hL; intro t hL; refine gor hL ?_))); (with_reducible refine po_allocL hL rfl ?_); clear hL; intro p6 t hL
              (refine gor hL ?_; (repeat (clear hL; intro t hL; refine gor hL ?_))); (with_reducible refine po_allocL hL rfl ?_); clear hL; intro p7 t hL
              refine gor hL ?_; (repeat (clear hL; intro t hL; refine gor hL ?_))
              exact ⟨_, _, .refl _ _, p6, p7, r0, r1, r2, r3, r4, r5, r6, r7, 0, 0, w, fun h => absurd h hc, tr2, hL.pk⟩
            · rw [g3] at h3
              refine po_c0 (h3) ?_
              refine gor hL ?_; (repeat (clear hL; intro t hL; refine gor hL ?_))
              (refine gor hL ?_; (repeat (clear hL; intro t hL; refine gor hL ?_))); (with_reducible refine po_allocL hL rfl ?_); clear hL; intro p6 t hL
              (refine gor hL ?_; (repeat (clear hL; intro t hL; refine gor hL ?_))); (with_reducible refine po_allocL hL rfl ?_); clear hL; intro p7 t hL
              refine gor hL ?_; (repeat (clear hL; intro t hL; refine gor hL ?_))
              exact ⟨_, _, .refl _ _, p6, p7, s0, s1, s2, s3, s4, s5, s6, s7, e, r, .zero, fun h => absurd h hc, tr2, hL.pk⟩
        clear hL
        rintro s' t ⟨p6, p7, r0, r1, r2, r3, r4, r5, r6, r7, e, r, w, hrs, rfl, hL⟩
        by_cases hc : VT.checkE T W ≠ 0
        · obtain ⟨rfl, rfl, rfl, rfl, rfl, rfl, rfl, rfl, rfl, rfl, rfl⟩ := hrs hc
          refine gor hL ?_; (repeat (clear hL; intro t hL; refine gor hL ?_))
          refine po_c0 (h5) ?_
          refine gor hL ?_; (repeat (clear hL; intro t hL; refine gor hL ?_))
          refine gnm ?_; rw [show (VT.checkE T W != 0) = true by simpa using hc]
          refine gor hL ?_; (repeat (clear hL; intro t hL; refine gor hL ?_))
          refine gnm ?_
          simp only [List.getD_cons_zero, List.getD_cons_succ, beq_self_eq_true, Bool.and_self]
          refine gor hL ?_; (repeat (clear hL; intro t hL; refine gor hL ?_))
          have hS := C24 17 0 17 0 VT.zero VT.zero zero_fit
          rw [VT.same_refl] at hS
          refine po_c0 (hS) ?_
          refine gor hL ?_; (repeat (clear hL; intro t hL; refine gor hL ?_))
          by_cases hq0 : checkP q ≠ 0
          · rw [c4 hq0] at h4
            refine po_c0 (h4) ?_
            refine gor hL ?_; (repeat (clear hL; intro t hL; refine gor hL ?_))
            refine po_c0 (h6) ?_
            refine gor hL ?_; (repeat (clear hL; intro t hL; refine gor hL ?_))
            refine pcond_b rfl (fun hb => ?_) (fun hb => absurd hq0 (by simpa using hb))
            refine gor hL ?_; (repeat (clear hL; intro t hL; refine gor hL ?_))
            refine gnm ?_
            simp only [List.getD_cons_zero, List.getD_cons_succ, beq_self_eq_true, Bool.and_self]
            refine gor hL ?_; (repeat (clear hL; intro t hL; refine gor hL ?_))
            have hS := C24 14 0 14 0 VT.zero VT.zero zero_fit
            rw [VT.same_refl] at hS
            refine po_c0 (hS) ?_
            refine gor hL ?_; (repeat (clear hL; intro t hL; refine gor hL ?_))
            rw [← hQ]
            exact pfin_pure rfl hL.le
          · rcases g4 with ⟨R, w2, hR, g4⟩ | ⟨e2', r2', hne, g4⟩
            · obtain ⟨u0, u1, u2, u3, u4, u5, u6, u7, rfl⟩ := len8 hR
              rw [g4] at h4
              refine po_c0 (h4) ?_
              refine gor hL ?_; (repeat (clear hL; intro t hL; refine gor hL ?_))
              refine po_c0 (h6) ?_
              refine gor hL ?_; (repeat (clear hL; intro t hL; refine gor hL ?_))
              refine pcond_b rfl (fun hb => absurd hq0 (by simpa using hb)) (fun hb => ?_)
              refine gor hL ?_; (repeat (clear hL; intro t hL; refine gor hL ?_))
              rw [← hQ]
              exact pfin_pure rfl hL.le
            · rw [g4] at h4
              refine po_c0 (h4) ?_
              refine gor hL ?_; (repeat (clear hL; intro t hL; refine gor hL ?_))
              refine po_c0 (h6) ?_
              refine gor hL ?_; (repeat (clear hL; intro t hL; refine gor hL ?_))
              refine pcond_b rfl (fun hb => absurd hq0 (by simpa using hb)) (fun hb => ?_)
              refine gor hL ?_; (repeat (clear hL; intro t hL; refine gor hL ?_))
              refine gnm ?_; rw [show (e2' == 0) = false by simpa using hne]
              refine gor hL ?_; (repeat (clear hL; intro t hL; refine gor hL ?_))
              refine gnm ?_
              simp only [List.getD_cons_zero, List.getD_cons_succ, beq_self_eq_true, Bool.and_self]
              refine gor hL ?_; (repeat (clear hL; intro t hL; refine gor hL ?_))
              rw [← hQ]
              exact pfin_pure rfl hL.le
        · refine gor hL ?_; (repeat (clear hL; intro t hL; refine gor hL ?_))
          refine po_c0 (h5) ?_
          refine gor hL ?_; (repeat (clear hL; intro t hL; refine gor hL ?_))
          refine gnm ?_; rw [show (VT.checkE T W != 0) = false by simpa using hc]
          refine gor hL ?_; (repeat (clear hL; intro t hL; refine gor hL ?_))
          by_cases hq0 : checkP q ≠ 0
          · rw [c4 hq0] at h4
            refine po_c0 (h4) ?_
            refine gor hL ?_; (repeat (clear hL; intro t hL; refine gor hL ?_))
            refine po_c0 (h6) ?_
            refine gor hL ?_; (repeat (clear hL; intro t hL; refine gor hL ?_))
            refine pcond_b rfl (fun hb => ?_) (fun hb => absurd hq0 (by simpa using hb))
            refine gor hL ?_; (repeat (clear hL; intro t hL; refine gor hL ?_))
            refine gnm ?_
            simp only [List.getD_cons_zero, List.getD_cons_succ, beq_self_eq_true, Bool.and_self]
            refine gor hL ?_; (repeat (clear hL; intro t hL; refine gor hL ?_))
            have hS := C24 14 0 14 0 VT.zero VT.zero zero_fit
            rw [VT.same_refl] at hS
            refine po_c0 (hS) ?_
            refine gor hL ?_; (repeat (clear hL; intro t hL; refine gor hL ?_))
            rw [← hQ]
            exact pfin_pure rfl hL.le
          · rcases g4 with ⟨R, w2, hR, g4⟩ | ⟨e2', r2', hne, g4⟩
            · obtain ⟨u0, u1, u2, u3, u4, u5, u6, u7, rfl⟩ := len8 hR
              rw [g4] at h4
              refine po_c0 (h4) ?_
              refine gor hL ?_; (repeat (clear hL; intro t hL; refine gor hL ?_))
              refine po_c0 (h6) ?_
              refine gor hL ?_; (repeat (clear hL; intro t hL; refine gor hL ?_))
              refine pcond_b rfl (fun hb => absurd hq0 (by simpa using hb)) (fun hb => ?_)
              refine gor hL ?_; (repeat (clear hL; intro t hL; refine gor hL ?_))
              rw [← hQ]
              exact pfin_pure rfl hL.le
            · rw [g4] at h4
              refine po_c0 (h4) ?_
              refine gor hL ?_; (repeat (clear hL; intro t hL; refine gor hL ?_))
              refine po_c0 (h6) ?_
              refine gor hL ?_; (repeat (clear hL; intro t hL; refine gor hL ?_))
              refine pcond_b rfl (fun hb => absurd hq0 (by simpa using hb)) (fun hb => ?_)
              refine gor hL ?_; (repeat (clear hL; intro t hL; refine gor hL ?_))
              refine gnm ?_; rw [show (e2' == 0) = false by simpa using hne]
              refine gor hL ?_; (repeat (clear hL; intro t hL; refine gor hL ?_))
              refine gnm ?_
              simp only [List.getD_cons_zero, List.getD_cons_succ, beq_self_eq_true, Bool.and_self]
              refine gor hL ?_; (repeat (clear hL; intro t hL; refine gor hL ?_))
              rw [← hQ]
              exact pfin_pure rfl hL.le
      · have e1 : decide ((path.length : Int) > 10) = false := decide_eq_false (by omega)
        have e2 : decide ((q.length : Int) > 40) = true := decide_eq_true (by omega)
        refine gor hL ?_; (repeat (clear hL; intro t hL; refine gor hL ?_))
        refine gnm ?_; rw [e1, e2]
        refine gor hL ?_; (repeat (clear hL; intro t hL; refine gor hL ?_))
        rw [← hQ]
        exact pfin_pure rfl hL.le
    · have e1 : decide ((path.length : Int) > 10) = true := decide_eq_true (by omega)
      refine gor hL ?_; (repeat (clear hL; intro t hL; refine gor hL ?_))
      refine gnm ?_; rw [e1]
      refine gor hL ?_; (repeat (clear hL; intro t hL; refine gor hL ?_))
      rw [← hQ]
      exact pfin_pure rfl hL.le
end Go.Pv
namespace Go.Pv
open Go.Proofs
set_option maxRecDepth 100000
set_option maxHeartbeats 8000000

theorem C10 (l : List Sm10) (hl : ∀ x ∈ l, x.fit) (hll : l.length < 2 ^ 63) : Pure (PCalls Try.prog GG) 10 [.d (.sl (l.map Sm10.row))] (.d (.sl (((prgM l).map keepI).map Ins.row))) := by
  have h1 := C11 l hl hll
  obtain ⟨_, htm, hpl⟩ := prgM_ok hl
  generalize prgM l = p at *
  have hr5 : ∀ k, ∀ r ∈ ((p.take k).map keepI).map Ins.row, r.length = 5 := fun k r hr => by obtain ⟨x, _, rfl⟩ := List.mem_map.1 hr; rfl
  intro st; refine pcalls_of k10 e10 (of_decide_eq_true rfl) ?_; dsimp only [c10]; refine pstartL ?_; intro t hL; generalize hQ : pfin _ _ = Q
  refine gor hL ?_; (repeat (clear hL; intro t hL; refine gor hL ?_))
  refine po_c0 (h1) ?_
  refine gor hL ?_; (repeat (clear hL; intro t hL; refine gor hL ?_))
  (apply prangeA (p.length) (by omega) (fun a z => put z (some 3) a) (fun k a t => Lay st [.vec a (((p.take k).map keepI).map Ins.row) 5] t) ((AV.full []))); (· exact trimA); (· exact fun _ _ => rfl)
  · exact hL.full [] 5
  · intro a t hL
    rw [List.take_length] at hL
    have fa := hL.vk a
    obtain ⟨fa_r, fa_w, fa_w1, fa_c, fa_s, fa_d⟩ := id fa
    refine gor hL ?_; (repeat (clear hL; intro t hL; refine gor hL ?_))
    rw [← hQ]
    exact pfin_weak rfl fa_w hL.le
  · intro k hk a t hL
    obtain ⟨x, hx, hxm⟩ := elem_at hk
    have fa := hL.vk a
    obtain ⟨fa_r, fa_w, fa_w1, fa_c, fa_s, fa_d⟩ := id fa
    have t1 := htm x hxm
    have hr' : ((p.take k).map keepI).map Ins.row ++ [(keepI x).row] = ((p.take (k + 1)).map keepI).map Ins.row := by rw [take_snoc hx, List.map_append, List.map_append]; rfl
    refine pblock ?_
    (refine gor hL ?_; (repeat (clear hL; intro t hL; refine gor hL ?_))); (with_reducible refine po_allocL hL rfl ?_); clear hL; intro p5 t hL
    refine gor hL ?_; (repeat (clear hL; intro t hL; refine gor hL ?_))
    obtain ⟨op, dst, aa, b, n⟩ := x
    have ed : dst.tmod 8 = dst % 8 := Int.tmod_eq_emod_of_nonneg t1.dst.1
    have ea : aa.tmod 8 = aa % 8 := Int.tmod_eq_emod_of_nonneg t1.a.1
    have eb : b.tmod 8 = b % 8 := Int.tmod_eq_emod_of_nonneg t1.b.1
    rw [ed, ea] at hL
    simp only [keepI, Ins.row] at hr'
    by_cases h9 : op = 9
    · subst h9
      simp +decide only [if_true, if_false, or_self] at hr'
      refine gor hL ?_; (repeat (clear hL; intro t hL; refine gor hL ?_)); (repeat (refine pseqk ?_; refine gor hL ?_; (repeat (clear hL; intro t hL; refine gor hL ?_))))
      skip
      refine po_appA hL (hr5 k) ?_ ?_; (· simp [List.length_take]; omega); clear hL; intro a' t f' hL; obtain ⟨f'_r, f'_w, f'_w1, f'_c, f'_s, f'_d⟩ := id f'
      rw [hr'] at hL
      refine gor hL ?_; (repeat (clear hL; intro t hL; refine gor hL ?_))
      exact ⟨a', hL.pk, tr2⟩
    · simp only [if_neg h9] at hr'
      have e9 : (op != 9) = true := by simpa using h9
      by_cases h0 : op = 0
      · subst h0
        simp +decide only [if_true, true_or] at hr'
        refine gor hL ?_; (repeat (clear hL; intro t hL; refine gor hL ?_)); (repeat (refine pseqk ?_; refine gor hL ?_; (repeat (clear hL; intro t hL; refine gor hL ?_))))
        refine po_appA hL (hr5 k) ?_ ?_; (· simp [List.length_take]; omega); clear hL; intro a' t f' hL; obtain ⟨f'_r, f'_w, f'_w1, f'_c, f'_s, f'_d⟩ := id f'
        rw [eb, hr'] at hL
        refine gor hL ?_; (repeat (clear hL; intro t hL; refine gor hL ?_))
        exact ⟨a', hL.pk, tr2⟩
      · by_cases h11 : op = 11
        · subst h11
          simp +decide only [if_true, or_true] at hr'
          refine gor hL ?_; (repeat (clear hL; intro t hL; refine gor hL ?_)); (repeat (refine pseqk ?_; refine gor hL ?_; (repeat (clear hL; intro t hL; refine gor hL ?_))))
          refine po_appA hL (hr5 k) ?_ ?_; (· simp [List.length_take]; omega); clear hL; intro a' t f' hL; obtain ⟨f'_r, f'_w, f'_w1, f'_c, f'_s, f'_d⟩ := id f'
          rw [eb, hr'] at hL
          refine gor hL ?_; (repeat (clear hL; intro t hL; refine gor hL ?_))
          exact ⟨a', hL.pk, tr2⟩
        · rw [if_neg (by omega)] at hr'
          have e0 : (op == 0) = false := by simpa using h0
          have e11 : (op == 11) = false := by simpa using h11
          refine gor hL ?_; (repeat (clear hL; intro t hL; refine gor hL ?_))
          refine pseqk ?_
          refine gor hL ?_; (repeat (clear hL; intro t hL; refine gor hL ?_))
          refine gnm ?_; rw [e9]
          refine gor hL ?_; (repeat (clear hL; intro t hL; refine gor hL ?_)); (repeat (refine pseqk ?_; refine gor hL ?_; (repeat (clear hL; intro t hL; refine gor hL ?_))))
          refine gnm ?_; rw [e0, e11]
          refine gor hL ?_; (repeat (clear hL; intro t hL; refine gor hL ?_)); (repeat (refine pseqk ?_; refine gor hL ?_; (repeat (clear hL; intro t hL; refine gor hL ?_))))
          refine po_appA hL (hr5 k) ?_ ?_; (· simp [List.length_take]; omega); clear hL; intro a' t f' hL; obtain ⟨f'_r, f'_w, f'_w1, f'_c, f'_s, f'_d⟩ := id f'
          rw [eb, hr'] at hL
          refine gor hL ?_; (repeat (clear hL; intro t hL; refine gor hL ?_))
          exact ⟨a', hL.pk, tr2⟩
theorem playF_st {tk an : KT} {p : List Ins} (hp : ∀ x ∈ p, x.fit) {S : List Int} (hS : S.length = 8) (hSr : Rok S) {v : VT} (hv : v.fit) : (playF tk an p S v).1.length = 8 ∧ Rok (playF tk an p S v).1 := by
  unfold playF
  split
  · exact ⟨hS, hSr⟩
  split
  · exact ⟨hS, hSr⟩
  split
  · exact ⟨hS, hSr⟩
  · rename_i b R h
    split
    · exact ⟨hS, hSr⟩
    · have hR : Rok R := go_rok hp _ _ _ _ _ _ (reg0_ok hSr (flatM_ok hv rfl)) h
      have hl := go_len _ _ _ _ _ _ h
      exact ⟨by rw [List.length_take, hl, reg0_len hS]; rfl, fun x hx => hR x (List.mem_of_mem_take hx)⟩
  · exact ⟨hS, hSr⟩
theorem cNo (p : List Ins) (hp : ∀ x ∈ p, x.fit) (hpl : p.length < 2 ^ 36) (S : List Int) (hS : S.length = 8) (hSr : Rok S) :
    Pure (PCalls Try.prog GG) 13 [.agg [.d (.int .u8 0), .d (.int .i64 0), .d (.sl []), .d (.sl []), .d (.int .u8 0), .d (.int .i64 0), .d (.sl []), .d (.sl []), .d (.sl (p.map Ins.row))], .agg (sc S), .agg [.d (.int .i64 0), .d (.flt .f64 0), .d (.str (bs [])), .d (.sl [])]] (playA (playF noT noT p S .zero)) :=
  cPlay noT noT (leaf_fit _ _) (leaf_fit _ _) (leaf_posd 0) leaf_cost p hp hpl S hS hSr .zero zero_fit (fun _ => by show (1 : Nat) < _; decide)
theorem C3 (a c : List Sm10) (ha : ∀ x ∈ a, x.fit) (hc : ∀ x ∈ c, x.fit) (hal : a.length < 2 ^ 63) (hcl : c.length < 2 ^ 63) (S : List Int) (hS : S.length = 8) (hSr : Rok S) :
    Pure (PCalls Try.prog GG) 3 [.d (.sl (a.map Sm10.row)), .d (.sl (c.map Sm10.row)), .agg (sc S)] (b2 true) := by
  have jc1 := C10 a ha hal
  have jc2 := C10 c hc hcl
  obtain ⟨p1c, p1t, p1l⟩ := prgM_ok ha
  obtain ⟨p2c, p2t, p2l⟩ := prgM_ok hc
  have cp := keep_chk p1t p1c
  have cq := keep_chk p2t p2c
  have hp : ∀ x ∈ (prgM a).map keepI, Tm x ∧ Lw x := fun x hx => by obtain ⟨y, hy, rfl⟩ := List.mem_map.1 hx; exact ⟨keep_tm (p1t y hy), keep_lw (p1t y hy)⟩
  have hq : ∀ x ∈ (prgM c).map keepI, Tm x ∧ Lw x := fun x hx => by obtain ⟨y, hy, rfl⟩ := List.mem_map.1 hx; exact ⟨keep_tm (p2t y hy), keep_lw (p2t y hy)⟩
  have lp : ((prgM a).map keepI).length ≤ 16 := by rw [List.length_map]; exact p1l
  have lq : ((prgM c).map keepI).length ≤ 16 := by rw [List.length_map]; exact p2l
  generalize (prgM a).map keepI = p at *
  generalize (prgM c).map keepI = q at *
  have hb : ∀ x ∈ p ++ q, x.fit := fun x hx => (List.mem_append.1 hx).elim (fun h => (hp x h).1.fit) (fun h => (hq x h).1.fit)
  have jc3 := C12 (p ++ q) hb (by rw [List.length_append]; omega)
  obtain ⟨s0, s1, s2, s3, s4, s5, s6, s7, rfl⟩ := len8 hS
  have hr0 : ∀ r ∈ ([] : List (List Dat)), r.length = 5 := fun _ h => by cases h
  have hr5 : ∀ r ∈ p.map Ins.row, r.length = 5 := rows5
  intro st; refine pcalls_of k3 e3 (of_decide_eq_true rfl) ?_; dsimp only [c3]; refine pstartL ?_; intro t hL; generalize hQ : pfin _ _ = Q
  (refine gor hL ?_; (repeat (clear hL; intro t hL; refine gor hL ?_))); refine po_boxA hL ?_; clear hL; intro p1 t hL
  refine gor hL ?_; (repeat (clear hL; intro t hL; refine gor hL ?_))
  refine po_c0 (C9) ?_
  refine gor hL ?_; (repeat (clear hL; intro t hL; refine gor hL ?_))
  by_cases hal10 : a.length ≤ 10
  · by_cases hcl10 : c.length ≤ 10
    · have e1 : decide ((a.length : Int) > 10) = false := decide_eq_false (by omega)
      have e2 : decide ((c.length : Int) > 10) = false := decide_eq_false (by omega)
      refine gnm ?_; rw [e1, e2]
      refine gor hL ?_; (repeat (clear hL; intro t hL; refine gor hL ?_))
      refine po_callv rfl rfl (jc1 _) (fun _ _ h => False.elim h) ?_
      refine gor hL ?_; (repeat (clear hL; intro t hL; refine gor hL ?_))
      refine po_callv rfl rfl (jc2 _) (fun _ _ h => False.elim h) ?_
      refine gor hL ?_; (repeat (clear hL; intro t hL; refine gor hL ?_))
      replace hL := hL.full [] 5
      refine po_appA hL (hn := rows5) hr0 ?_ ?_; (· simp; omega); clear hL; intro v1 t f1 hL; obtain ⟨f1_r, f1_w, f1_w1, f1_c, f1_s, f1_d⟩ := id f1
      rw [List.nil_append] at hL f1_r f1_w f1_w1 f1_d
      refine gor hL ?_; (repeat (clear hL; intro t hL; refine gor hL ?_))
      refine po_appA hL (hn := rows5) hr5 ?_ ?_; (· simp; omega); clear hL; intro v2 t f2 hL; obtain ⟨f2_r, f2_w, f2_w1, f2_c, f2_s, f2_d⟩ := id f2
      rw [← List.map_append] at hL f2_r f2_w f2_w1 f2_d
      clear f1 f2 f1_r f1_w f1_w1 f1_c f1_s f1_d
      refine gor hL ?_; (repeat (clear hL; intro t hL; refine gor hL ?_))
      refine po_c0 (jc3) ?_
      refine gor hL ?_; (repeat (clear hL; intro t hL; refine gor hL ?_))
      by_cases hck : checkP (p ++ q) ≠ 0
      · refine gnm ?_; rw [show (checkP (p ++ q) != 0) = true by simpa using hck]
        refine gor hL ?_; (repeat (clear hL; intro t hL; refine gor hL ?_))
        rw [← hQ]
        exact pfin_pure rfl hL.le
      have cb : checkP (p ++ q) = 0 := by simpa using hck
      have J := joins hp hq cp cq cb (S := [s0, s1, s2, s3, s4, s5, s6, s7]) rfl hSr
      have m1 := playF_st (tk := noT) (an := noT) (fun x hx => (hp x hx).1.fit) (S := [s0, s1, s2, s3, s4, s5, s6, s7]) rfl hSr zero_fit
      have n1 := cNo p (fun x hx => (hp x hx).1.fit) (by omega) [s0, s1, s2, s3, s4, s5, s6, s7] rfl hSr
      have n3 := cNo (p ++ q) hb (by rw [List.length_append]; omega) [s0, s1, s2, s3, s4, s5, s6, s7] rfl hSr
      have m3 := playF_st (tk := noT) (an := noT) hb (S := [s0, s1, s2, s3, s4, s5, s6, s7]) rfl hSr zero_fit
      generalize playF noT noT p [s0, s1, s2, s3, s4, s5, s6, s7] .zero = X1 at *
      generalize playF noT noT (p ++ q) [s0, s1, s2, s3, s4, s5, s6, s7] .zero = X3 at *
      obtain ⟨L1, e1', r1, w1⟩ := X1
      obtain ⟨L3, e3, r3, w3⟩ := X3
      simp only at J m1 m3
      obtain ⟨l10, l11, l12, l13, l14, l15, l16, l17, rfl⟩ := len8 m1.1
      have n2 := cNo q (fun x hx => (hq x hx).1.fit) (by omega) _ m1.1 m1.2
      have m2 := playF_st (tk := noT) (an := noT) (fun x hx => (hq x hx).1.fit) m1.1 m1.2 zero_fit
      generalize playF noT noT q [l10, l11, l12, l13, l14, l15, l16, l17] .zero = X2 at *
      obtain ⟨L2, e2', r2, w2⟩ := X2
      simp only at J m2
      obtain ⟨l20, l21, l22, l23, l24, l25, l26, l27, rfl⟩ := len8 m2.1
      obtain ⟨l30, l31, l32, l33, l34, l35, l36, l37, rfl⟩ := len8 m3.1
      refine gnm ?_; rw [show (checkP (p ++ q) != 0) = false by simpa using cb]
      refine gor hL ?_; (repeat (clear hL; intro t hL; refine gor hL ?_))
      refine po_c0 (n1) ?_
      refine gor hL ?_; (repeat (clear hL; intro t hL; refine gor hL ?_))
      (refine gor hL ?_; (repeat (clear hL; intro t hL; refine gor hL ?_))); (with_reducible refine po_allocL hL rfl ?_); clear hL; intro p11 t hL
      refine gor hL ?_; (repeat (clear hL; intro t hL; refine gor hL ?_))
      (refine gor hL ?_; (repeat (clear hL; intro t hL; refine gor hL ?_))); (with_reducible refine po_allocL hL rfl ?_); clear hL; intro p12 t hL
      refine gor hL ?_; (repeat (clear hL; intro t hL; refine gor hL ?_))
      refine po_c0 (n2) ?_
      refine gor hL ?_; (repeat (clear hL; intro t hL; refine gor hL ?_))
      (refine gor hL ?_; (repeat (clear hL; intro t hL; refine gor hL ?_))); (with_reducible refine po_allocL hL rfl ?_); clear hL; intro p13 t hL
      refine gor hL ?_; (repeat (clear hL; intro t hL; refine gor hL ?_))
      (refine gor hL ?_; (repeat (clear hL; intro t hL; refine gor hL ?_))); (with_reducible refine po_allocL hL rfl ?_); clear hL; intro p14 t hL
      refine gor hL ?_; (repeat (clear hL; intro t hL; refine gor hL ?_))
      refine po rfl (show Go.Pv.ev GG _ (.bld [.d (.int .u8 0), .d (.int .i64 0), .full [], .full [], .d (.int .u8 0), .d (.int .i64 0), .full [], .full [], .full []] [(8, 1, .t 58)]) = some (.agg [.d (.int .u8 0), .d (.int .i64 0), .full [], .full [], .d (.int .u8 0), .d (.int .i64 0), .full [], .full [], v2]) from ?_) ?_
      · simp +decide only [Go.Pv.ev, List.map_cons, List.map_nil, pvc, fillCells, f2_c]
        rfl
      refine gor hL ?_; (repeat (clear hL; intro t hL; refine gor hL ?_))
      refine po_c0 n3 ?_ ?_
      rotate_left
      · show List.map AV.weak [.agg [.d (.int .u8 0), .d (.int .i64 0), .full [], .full [], .d (.int .u8 0), .d (.int .i64 0), .full [], .full [], v2], .agg (sc [s0, s1, s2, s3, s4, s5, s6, s7]), .agg [.d (.int .i64 0), .d (.flt .f64 0), .d (.str (bs [])), .full []]] = _
        simp only [List.map_cons, List.map_nil, AV.weak, f2_w1]
        rfl
      refine gor hL ?_; (repeat (clear hL; intro t hL; refine gor hL ?_))
      (refine gor hL ?_; (repeat (clear hL; intro t hL; refine gor hL ?_))); (with_reducible refine po_allocL hL rfl ?_); clear hL; intro p15 t hL
      refine gor hL ?_; (repeat (clear hL; intro t hL; refine gor hL ?_))
      (refine gor hL ?_; (repeat (clear hL; intro t hL; refine gor hL ?_))); (with_reducible refine po_allocL hL rfl ?_); clear hL; intro p16 t hL
      refine gor hL ?_; (repeat (clear hL; intro t hL; refine gor hL ?_))
      by_cases h1 : e1' = 0
      · have JA := J.2 h1
        clear J
        subst h1
        refine gor hL ?_; (repeat (clear hL; intro t hL; refine gor hL ?_))
        by_cases h2 : e2' = 0
        · have JB := JA.2 h2
          clear JA
          subst h2
          simp only [List.cons.injEq] at JB
          obtain ⟨rfl, rfl, rfl, rfl, rfl, rfl, rfl, rfl, rfl, _⟩ := JB
          refine gor hL ?_; (repeat (clear hL; intro t hL; refine gor hL ?_))
          rw [← hQ]
          exact pfin_pure rfl hL.le
        · have JB := JA.1 h2
          clear JA
          simp only [List.cons.injEq] at JB
          obtain ⟨rfl, rfl, rfl, rfl, rfl, rfl, rfl, rfl, rfl, rfl, _⟩ := JB
          refine gnm ?_; rw [show (e3 != 0) = true by simpa using h2]
          refine gor hL ?_; (repeat (clear hL; intro t hL; refine gor hL ?_))
          rw [← hQ]
          exact pfin_pure rfl hL.le
      · have JB := J.1 h1
        clear J
        simp only [List.cons.injEq] at JB
        obtain ⟨rfl, rfl, rfl, rfl, rfl, rfl, rfl, rfl, rfl, rfl, _⟩ := JB
        refine gnm ?_; rw [show (e3 != 0) = true by simpa using h1]
        refine gor hL ?_; (repeat (clear hL; intro t hL; refine gor hL ?_))
        rw [← hQ]
        exact pfin_pure rfl hL.le
    · have e1 : decide ((a.length : Int) > 10) = false := decide_eq_false (by omega)
      have e2 : decide ((c.length : Int) > 10) = true := decide_eq_true (by omega)
      refine gnm ?_; rw [e1, e2]
      refine gor hL ?_; (repeat (clear hL; intro t hL; refine gor hL ?_))
      rw [← hQ]
      exact pfin_pure rfl hL.le
  · have e1 : decide ((a.length : Int) > 10) = true := decide_eq_true (by omega)
    refine gnm ?_; rw [e1]
    refine gor hL ?_; (repeat (clear hL; intro t hL; refine gor hL ?_))
    rw [← hQ]
    exact pfin_pure rfl hL.le
end Go.Pv
