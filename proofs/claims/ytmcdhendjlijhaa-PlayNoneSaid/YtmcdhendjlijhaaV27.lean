/- Functions of the program, by value. No condition. -/
import Derived.Test.YtmcdhendjlijhaaV25
import Derived.Test.YtmcdhendjlijhaaX4
namespace Go.Pv
open Go.Proofs
set_option maxRecDepth 100000
set_option maxHeartbeats 8000000

theorem flat1 (l : List Int) : ((l.map fun n => [Dat.int .i64 n]).flatten.map AV.d) = l.map fun n => AV.d (.int .i64 n) := by
  induction l with
  | nil => rfl
  | cons x l ih => rw [List.map_cons, List.flatten_cons, List.map_append, ih]; rfl
theorem slc_elt {G : Glob} {s : Slots} {x : Arg} {R : List Int} (hx : x.ev G s = .elt (R.map (Dat.int .i64))) (hR : R.length = 8) : Go.Pv.ev G s (.slcA 8 1 x none none) = some (.d (i64s R)) := by
  have h : (R.map (Dat.int .i64)).take 8 = R.map (Dat.int .i64) := List.take_of_length_le (by simp [hR])
  simp only [Go.Pv.ev, hx, bnds, List.length_map, hR, Option.map_none, Option.bind_some, Option.map_some, h, List.drop_zero, List.map_map]
  rfl
theorem C5 (x : Sm11) (hx : x.fit) : Pure (PCalls Try.prog GG) 5 [.agg x.cs] (b2 true) := by
  have h1 := C14 x hx
  intro st; refine pcalls_of k5 e5 (of_decide_eq_true rfl) ?_; dsimp only [c5]; refine pstartL ?_; intro t hL; generalize hQ : pfin _ _ = Q
  (refine gor hL ?_; (repeat (clear hL; intro t hL; refine gor hL ?_))); refine po_boxA hL ?_; clear hL; intro p1 t hL
  refine gor hL ?_; (repeat (clear hL; intro t hL; refine gor hL ?_))
  refine po_c0 (C9) ?_
  refine gor hL ?_; (repeat (clear hL; intro t hL; refine gor hL ?_))
  refine po_c0 (h1) ?_
  refine gor hL ?_; (repeat (clear hL; intro t hL; refine gor hL ?_))
  cases hl : x.light with
  | false =>
    rw [hl] at h1
    refine gor hL ?_; (repeat (clear hL; intro t hL; refine gor hL ?_))
    rw [← hQ]
    exact pfin_pure rfl hL.le
  | true =>
    have hsm := Sm11.small hl
    obtain ⟨tk, an, p, S, l⟩ := x
    obtain ⟨s0, s1, s2, s3, s4, s5, s6, s7, rfl⟩ := len8 hx.S.1
    have hwT : WT 4 (Nd.typ 4 tk []) := .of_typ (by decide) hx.tk
    have hwA : WT 4 (Nd.typ 4 an []) := .of_typ (by decide) hx.an
    obtain ⟨t1, t2, t3⟩ := typ_le hx.tk
    obtain ⟨a1, a2, a3⟩ := typ_le hx.an
    have hlr : Rok l := hx.l.1
    have vf := buildV_fit hlr t1
    have vi := buildV_is hlr (show 4 ≤ 20 by decide) hwT
    have hcnt : (buildV l (Nd.typ 4 tk [])).count < 2 ^ 40 := Nat.lt_trans (buildV_count l (Nat.lt_of_le_of_lt (hwT.cost 20) (by decide))) (by decide)
    have h2 := C15 ⟨tk, an, p, [s0, s1, s2, s3, s4, s5, s6, s7], l⟩ hx hl
    have h3 := cPlay (Nd.typ 4 tk []) (Nd.typ 4 an []) t1 a1 a2 a3 [] (fun _ h => by cases h) (by decide) [s0, s1, s2, s3, s4, s5, s6, s7] rfl hx.S.2 (buildV l (Nd.typ 4 tk [])) vf (fun _ => hcnt)
    rw [play_none hwT hwA (by decide) rfl hlr] at h3
    have h4 := C16 8 _ _ t1 vf (fun _ => hcnt)
    have h5 := C18 (pad8 (flatM 64 (Nd.typ 4 tk []) (buildV l (Nd.typ 4 tk [])))) (by simp [pad8]) (pad8_ok (flatM_ok vf rfl)) _ a1 a2 a3
    have h6 := C17 (buildV (pad8 (flatM 64 (Nd.typ 4 tk []) (buildV l (Nd.typ 4 tk [])))) (Nd.typ 4 an [])) (buildV (pad8 (flatM 64 (Nd.typ 4 tk []) (buildV l (Nd.typ 4 tk [])))) (Nd.typ 4 an [])) (buildV_fit (pad8_ok (flatM_ok vf rfl)) a1)
    rw [VT.same_refl] at h6
    rw [KT.av_eq] at h4 h5
    simp only [VT.av_eq] at h2 h3 h4 h5 h6
    refine gor hL ?_; (repeat (clear hL; intro t hL; refine gor hL ?_))
    refine po_c0 (h2) ?_
    refine gor hL ?_; (repeat (clear hL; intro t hL; refine gor hL ?_))
    (refine gor hL ?_; (repeat (clear hL; intro t hL; refine gor hL ?_))); (with_reducible refine po_allocL hL rfl ?_); clear hL; intro p3 t hL
    (refine gor hL ?_; (repeat (clear hL; intro t hL; refine gor hL ?_))); (with_reducible refine po_allocL hL rfl ?_); clear hL; intro p4 t hL
    refine gor hL ?_; (repeat (clear hL; intro t hL; refine gor hL ?_))
    refine po_c0 (h3) ?_
    refine gor hL ?_; (repeat (clear hL; intro t hL; refine gor hL ?_))
    (refine gor hL ?_; (repeat (clear hL; intro t hL; refine gor hL ?_))); (with_reducible refine po_allocL hL rfl ?_); clear hL; intro p5 t hL
    (refine gor hL ?_; (repeat (clear hL; intro t hL; refine gor hL ?_))); (with_reducible refine po_allocL hL rfl ?_); clear hL; intro p6 t hL
    refine gor hL ?_; (repeat (clear hL; intro t hL; refine gor hL ?_))
    (refine gor hL ?_; (repeat (clear hL; intro t hL; refine gor hL ?_))); (with_reducible refine po_allocL hL rfl ?_); clear hL; intro p7 t hL
    refine gor hL ?_; (repeat (clear hL; intro t hL; refine gor hL ?_))
    have e8 : pad8 (flatM 8 (Nd.typ 4 tk []) (buildV l (Nd.typ 4 tk []))) = pad8 (flatM 64 (Nd.typ 4 tk []) (buildV l (Nd.typ 4 tk []))) := pad8_flat hwT (by decide) (by rw [← is_deep hwT 20 _ (by decide)]; exact vi)
    refine po_c0 h4 ?_ (by rfl)
    generalize flatM 8 (Nd.typ 4 tk []) (buildV l (Nd.typ 4 tk [])) = F8 at *
    have hR8 : (pad8 (flatM 64 (Nd.typ 4 tk []) (buildV l (Nd.typ 4 tk [])))).length = 8 := by simp [pad8]
    generalize pad8 (flatM 64 (Nd.typ 4 tk []) (buildV l (Nd.typ 4 tk []))) = R8 at *
    generalize hO : buildV R8 (Nd.typ 4 an []) = O at *
    refine pjoinO (fun s u => s = put (put (put (put (put (fun _ => .undef) (some 7) (.elt (R8.map (Dat.int .i64)))) (some 6) (ptrAt p6)) (some 5) (ptrAt p5)) (some 3) (ptrAt p3)) (some 1) (ptrAt p1) ∧
      Lay st [.box p6 [.d (.int .i64 0), .d (.int .i64 0), .d (.int .i64 O.n), .d (.flt .f64 O.f), .d (.str O.s), .d (.sl (O.of.map VT.row))], .box p5 (sc [s0, s1, s2, s3, s4, s5, s6, s7]),
        .box p3 [.d (.int .u8 (Nd.typ 4 tk []).kind), .d (.int .i64 (Nd.typ 4 tk []).most), .d (.sl ((Nd.typ 4 tk []).names.map fun s => [.str s])), .d (.sl ((Nd.typ 4 tk []).of.map KT.row)), .d (.int .u8 (Nd.typ 4 an []).kind), .d (.int .i64 (Nd.typ 4 an []).most), .d (.sl ((Nd.typ 4 an []).names.map fun s => [.str s])), .d (.sl ((Nd.typ 4 an []).of.map KT.row)), .full []],
        .box p1 (Sm11.cs ⟨tk, an, p, [s0, s1, s2, s3, s4, s5, s6, s7], l⟩)] u) ?_ ?_
    · refine po_copyL (o := 0) (n := 8) (cap := 8) (n' := F8.length) (v := .d (i64s F8)) hL rfl rfl (by repeat (first | exact Rem.head | apply Rem.tail)) rfl (by simp [AV.slen, AV.rows?, i64s]) (cs := (F8.take 8).map fun n => .d (.int .i64 n)) (out := R8.map fun n => .d (.int .i64 n)) ?_ ⟨?_, ?_⟩ ?_ ?_ ?_ ?_
      · show some (((F8.map fun n => [Dat.int .i64 n]).flatten.map AV.d).take (min F8.length 8 * 1)) = _
        rw [flat1, Nat.mul_one, List.map_take]
        congr 1
        by_cases h8 : F8.length ≤ 8
        · rw [show min F8.length 8 = F8.length by omega, List.take_of_length_le (by simp), List.take_of_length_le (by simp; omega)]
        · rw [show min F8.length 8 = 8 by omega]
      · simp [List.length_take]; omega
      · exact List.all_eq_true.2 fun y hy => by obtain ⟨n, _, rfl⟩ := List.mem_map.1 hy; rfl
      · show 0 + min F8.length 8 * 1 ≤ 8; omega
      · intro r hr y hy
        obtain rfl : F8.map (fun n => [Dat.int .i64 n]) = r := Option.some.inj hr
        obtain ⟨n, _, rfl⟩ := List.mem_map.1 hy; rfl
      · rw [← e8, ← pad8_cells, Nat.mul_one, Nat.zero_add]; rfl
      clear hL; intro t hL
      refine pnil ?_
      have hLm := hL.rem (x := .box p7 (R8.map fun n => .d (.int .i64 n))) (by repeat (first | exact Rem.head | apply Rem.tail))
      have n1 : p1 ≠ p7 := hLm.neq (by repeat (first | exact Rem.head | apply Rem.tail))
      have n3 : p3 ≠ p7 := hLm.neq (by repeat (first | exact Rem.head | apply Rem.tail))
      have n5 : p5 ≠ p7 := hLm.neq (by repeat (first | exact Rem.head | apply Rem.tail))
      have n6 : p6 ≠ p7 := hLm.neq (by repeat (first | exact Rem.head | apply Rem.tail))
      obtain ⟨t2, hf, hL2⟩ := hLm.elt (ds := R8.map (Dat.int .i64)) (by rw [List.map_map, List.map_map]; rfl)
      refine ⟨_, t2, hf _, ?_, hL2.pick (by (repeat (first | (with_reducible exact Pick.nil) | ((with_reducible apply Pick.cons); · (repeat (first | exact Rem.head | apply Rem.tail))))))⟩
      refine Eq.trans (congrArg (a₂ := put (put (put (put (put (fun _ => .undef) (some 7) (ptrAt p7)) (some 6) (ptrAt p6)) (some 5) (ptrAt p5)) (some 3) (ptrAt p3)) (some 1) (ptrAt p1)) (fun (z : Slots) => fun i => AV.elt1 p7 (R8.map (Dat.int .i64)) (z i)) (by first | exact trimA | simp +decide only [pvc, pvi, pvt])) ?_
      simp only [elt_put, elt_undef, elt_hit]
      rw [elt_miss _ n1, elt_miss _ n3, elt_miss _ n5, elt_miss _ n6]
    clear hL
    rintro s t ⟨rfl, hL⟩
    refine gor hL ?_; (repeat (clear hL; intro t hL; refine gor hL ?_))
    refine gnm ?_
    simp only [List.getD_cons_zero, List.getD_cons_succ, beq_self_eq_true, Bool.and_self]
    refine gor hL ?_; (repeat (clear hL; intro t hL; refine gor hL ?_))
    refine po rfl (slc_elt rfl hR8) ?_
    refine gor hL ?_; (repeat (clear hL; intro t hL; refine gor hL ?_))
    refine po_cp h5 ?_ (by rfl)
    refine gor hL ?_; (repeat (clear hL; intro t hL; refine gor hL ?_))
    refine po_cp h6 ?_ (by rfl)
    refine gor hL ?_; (repeat (clear hL; intro t hL; refine gor hL ?_))
    rw [← hQ]
    exact pfin_pure rfl hL.le
end Go.Pv
