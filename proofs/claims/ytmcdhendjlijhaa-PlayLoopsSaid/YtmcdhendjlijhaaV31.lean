/- Functions of the program, by value. No condition. -/
import Derived.Test.YtmcdhendjlijhaaV28
namespace Go.Pv
open Go.Proofs
set_option maxRecDepth 100000
set_option maxHeartbeats 8000000

/-- What is looped. -/
def bodyS (b : List Ins) (x : Ins) : List Ins := if jumps x = false ∧ b.length < 4 then b ++ [x] else b
def bodyOf (l : List Ins) : List Ins := l.foldl bodyS []
theorem bodyOf_snoc (l : List Ins) (x : Ins) : bodyOf (l ++ [x]) = bodyS (bodyOf l) x := by rw [bodyOf, List.foldl_append]; rfl
theorem bodyOf_take {l : List Ins} {k : Nat} {x : Ins} (hx : l[k]? = some x) : bodyOf (l.take (k + 1)) = bodyS (bodyOf (l.take k)) x := by rw [take_snoc hx, bodyOf_snoc]
theorem bodyOf_ok : ∀ (n : Nat) (l : List Ins), l.length = n → (∀ x ∈ bodyOf l, x ∈ l ∧ jumps x = false) ∧ (bodyOf l).length ≤ 4
  | 0, l, h => by rw [List.length_eq_zero_iff.1 h]; exact ⟨fun _ h => (by cases h), by decide⟩
  | n + 1, l, h => by
    rcases List.eq_nil_or_concat l with rfl | ⟨l', y, rfl⟩
    · exact ⟨fun _ h => (by cases h), by decide⟩
    · rw [List.concat_eq_append] at *
      obtain ⟨h1, h2⟩ := bodyOf_ok n l' (by simp at h; omega)
      rw [bodyOf_snoc, bodyS]
      split
      · rename_i hc
        refine ⟨fun x hx => ?_, by simp; omega⟩
        rcases List.mem_append.1 hx with hx | hx
        · exact ⟨List.mem_append_left _ (h1 x hx).1, (h1 x hx).2⟩
        · rw [List.mem_singleton.1 hx]; exact ⟨by simp, hc.1⟩
      · exact ⟨fun x hx => ⟨List.mem_append_left _ (h1 x hx).1, (h1 x hx).2⟩, h2⟩
theorem playF_loop (tk an : KT) (S : List Int) (v : VT) {l : List Ins} (ht : ∀ x ∈ l, Tm x) (hj : ∀ x ∈ l, jumps x = false) (h1 : 1 ≤ l.length) (h4 : l.length ≤ 4) {n : Nat} (hn : 1 ≤ n ∧ n ≤ 5) : playF tk an (List.replicate n l).flatten S v = playF tk an (lpI l.length n :: l) S v := by
  unfold playF
  rw [chk_loop ht hj h1 h4 hn, chk_reps ht hj h4 hn.2]
  have e : ∀ R, go (lpI l.length n :: l) (flatM 64 tk v) ((lpI l.length n :: l).length + 1) 0 (lpI l.length n :: l).length R = rep (goL (flatM 64 tk v) l) n R := fun R => go_loop _ l hj n R
  rw [go_reps _ l hj, e]
theorem playF_fit {tk an : KT} {p : List Ins} (hp : ∀ x ∈ p, x.fit) {S : List Int} (hSr : Rok S) {v : VT} (hv : v.fit) (ha : an.fit) : (playF tk an p S v).2.2.2.fit := by
  unfold playF
  split
  · exact zero_fit
  split
  · exact zero_fit
  split
  · exact zero_fit
  · rename_i b R h
    split
    · exact zero_fit
    · have hR : Rok R := go_rok hp _ _ _ _ _ _ (reg0_ok hSr (flatM_ok hv rfl)) h
      exact buildV_fit (fun x hx => hR x (List.mem_of_mem_drop hx)) ha
  · exact zero_fit
theorem C8 (l : List Sm10) (hl : ∀ x ∈ l, x.fit) (hll : l.length < 2 ^ 63) (times : Int) (htm : 0 ≤ times ∧ times ≤ 255) (x : Sm11) (hx : x.fit) :
    Pure (PCalls Try.prog GG) 8 [.d (.sl (l.map Sm10.row)), .d (.int .u8 times), .agg x.cs] (b2 true) := by
  have h1 := C14 x hx
  have h2 := C11 l hl hll
  obtain ⟨_, pt, pl⟩ := prgM_ok hl
  generalize prgM l = p at *
  have hr5 : ∀ k, ∀ r ∈ (bodyOf (p.take k)).map Ins.row, r.length = 5 := fun k => rows5
  obtain ⟨bm, bl⟩ := bodyOf_ok _ p rfl
  have bk : ∀ k, (bodyOf (p.take k)).length ≤ 4 := fun k => (bodyOf_ok _ (p.take k) rfl).2
  intro st; refine pcalls_of k8 e8 (of_decide_eq_true rfl) ?_; dsimp only [c8]; refine pstartL ?_; intro t hL; generalize hQ : pfin _ _ = Q
  (refine gor hL ?_; (repeat (clear hL; intro t hL; refine gor hL ?_))); refine po_boxA hL ?_; clear hL; intro p5 t hL
  refine gor hL ?_; (repeat (clear hL; intro t hL; refine gor hL ?_))
  refine po_c0 (C9) ?_
  refine gor hL ?_; (repeat (clear hL; intro t hL; refine gor hL ?_))
  by_cases hl20 : l.length ≤ 20
  · have e1 : decide ((l.length : Int) > 20) = false := decide_eq_false (by omega)
    refine gnm ?_; rw [e1]
    refine gor hL ?_; (repeat (clear hL; intro t hL; refine gor hL ?_))
    refine po_c0 (h1) ?_
    cases hlt : x.light with
    | false =>
      refine gor hL ?_; (repeat (clear hL; intro t hL; refine gor hL ?_))
      rw [← hQ]
      exact pfin_pure rfl hL.le
    | true =>
      refine gor hL ?_; (repeat (clear hL; intro t hL; refine gor hL ?_))
      refine po_c0 (h2) ?_
      refine gor hL ?_; (repeat (clear hL; intro t hL; refine gor hL ?_))
      (apply prangeA (p.length) (by omega) (fun a z => put z (some 7) a) (fun k a t => Lay st [.vec a ((bodyOf (p.take k)).map Ins.row) 5, .box p5 x.cs] t) ((AV.full []))); (· exact trimA); (· exact fun _ _ => rfl)
      · replace hL := hL.full [] 5
        exact hL.pk
      · intro a t hL
        rw [List.take_length] at hL
        have fa := hL.vk a
        obtain ⟨fa_r, fa_w, fa_w1, fa_c, fa_s, fa_d⟩ := id fa
        generalize bodyOf p = B at *
        have hBt : ∀ x ∈ B, Tm x := fun x hx => pt x (bm x hx).1
        have hBj : ∀ x ∈ B, jumps x = false := fun x hx => (bm x hx).2
        by_cases hB0 : B.length = 0
        · refine gor hL ?_; (repeat (clear hL; intro t hL; refine gor hL ?_))
          refine gnm ?_; rw [show ((B.length : Int) == 0) = true by rw [hB0]; rfl]
          refine gor hL ?_; (repeat (clear hL; intro t hL; refine gor hL ?_))
          rw [← hQ]
          exact pfin_pure rfl hL.le
        refine gor hL ?_; (repeat (clear hL; intro t hL; refine gor hL ?_))
        refine gnm ?_; rw [show ((B.length : Int) == 0) = false from beq_eq_false_iff_ne.2 (by omega)]
        obtain ⟨n, hn, hn1⟩ : ∃ n : Nat, IntKind.i64.wrap (1 + IntKind.i64.wrap (times.tmod 5)) = (n : Int) ∧ 1 ≤ n ∧ n ≤ 5 := by
          rw [Int.tmod_eq_emod_of_nonneg htm.1, IntWalk.i64_in (times % 5) (by omega), IntWalk.i64_in _ (by omega)]
          exact ⟨(1 + times % 5).toNat, by omega, by omega⟩
        have eu : IntKind.u8.wrap (B.length : Int) = B.length := IntWalk.u8_in _ (by omega)
        have ei : IntKind.i16.wrap (n : Int) = n := IntWalk.i16_in _ (by omega)
        refine gor hL ?_; (repeat (clear hL; intro t hL; refine gor hL ?_))
        refine gnm ?_; rw [hn, ei, eu]
        have hr1 : ∀ r ∈ ([[Dat.int .u8 9, .int .u8 0, .int .u8 0, .int .u8 (B.length : Int), .int .i16 (n : Int)]] : List (List Dat)), r.length = 5 := fun r hr => by rw [List.mem_singleton.1 hr]; rfl
        replace hL := hL.full [[.int .u8 9, .int .u8 0, .int .u8 0, .int .u8 (B.length : Int), .int .i16 (n : Int)]] 5
        refine gor hL ?_; (repeat (clear hL; intro t hL; refine gor hL ?_))
        refine po_appA hL (hn := rows5) hr1 ?_ ?_; (· simp; omega); clear hL; intro v1 t f1 hL; obtain ⟨f1_r, f1_w, f1_w1, f1_c, f1_s, f1_d⟩ := id f1
        have e11 : [[Dat.int .u8 9, .int .u8 0, .int .u8 0, .int .u8 (B.length : Int), .int .i16 (n : Int)]] ++ B.map Ins.row = (lpI B.length n :: B).map Ins.row := rfl
        rw [e11] at hL f1_r f1_w f1_w1 f1_d
        refine gor hL ?_; (repeat (clear hL; intro t hL; refine gor hL ?_))
        have hrk : ∀ k, ∀ r ∈ ((List.replicate k B).flatten).map Ins.row, r.length = 5 := fun k => rows5
        have hkl : ∀ k, ((List.replicate k B).flatten).length = k * B.length := fun k => by simp
        (apply prangeA (n) (by omega) (fun a z => put z (some 12) a) (fun k a12 t => Lay st [.vec a12 (((List.replicate k B).flatten).map Ins.row) 5, .vec v1 ((lpI B.length n :: B).map Ins.row) 5, .vec a (B.map Ins.row) 5, .box p5 x.cs] t) ((AV.full []))); (· exact trimA); (· exact fun _ _ => rfl)
        · replace hL := hL.full [] 5
          exact hL.pk
        · intro a12 t hL
          have f12 := hL.vk a12
          obtain ⟨f12_r, f12_w, f12_w1, f12_c, f12_s, f12_d⟩ := id f12
          refine gor hL ?_; (repeat (clear hL; intro t hL; refine gor hL ?_))
          have hsm := Sm11.small hlt
          obtain ⟨tk, an, q, S, lx⟩ := x
          obtain ⟨s0, s1, s2, s3, s4, s5, s6, s7, rfl⟩ := len8 hx.S.1
          have hwT : WT 4 (Nd.typ 4 tk []) := .of_typ (by decide) hx.tk
          obtain ⟨t1, t2, t3⟩ := typ_le hx.tk
          obtain ⟨a1, a2, a3⟩ := typ_le hx.an
          have hlr : Rok lx := hx.l.1
          have vf : (buildV lx (Nd.typ 4 tk [])).fit := buildV_fit hlr t1
          have hcnt : (buildV lx (Nd.typ 4 tk [])).count < 2 ^ 39 := Nat.lt_trans (buildV_count lx (Nat.lt_of_le_of_lt (hwT.cost 20) (by decide))) (by decide)
          have hb := C15 ⟨tk, an, q, [s0, s1, s2, s3, s4, s5, s6, s7], lx⟩ hx hlt
          have f1' : ∀ x ∈ lpI B.length n :: B, x.fit := fun x hx => by
            rcases List.mem_cons.1 hx with rfl | hx
            · exact ⟨by show (0 : Int) ≤ 9 ∧ (9 : Int) ≤ 255; decide, by show (0 : Int) ≤ 0 ∧ (0 : Int) ≤ 255; decide, by show (0 : Int) ≤ 0 ∧ (0 : Int) ≤ 255; decide, by show 0 ≤ (B.length : Int) ∧ (B.length : Int) ≤ 255; omega, by show -32768 ≤ (n : Int) ∧ (n : Int) ≤ 32767; omega⟩
            · exact (hBt x hx).fit
          have f2' : ∀ x ∈ (List.replicate n B).flatten, x.fit := fun x hx => by
            obtain ⟨m, hm, hx⟩ := List.mem_flatten.1 hx
            rw [List.eq_of_mem_replicate hm] at hx
            exact (hBt x hx).fit
          have hn5 : n * B.length ≤ 5 * 4 := Nat.mul_le_mul hn1.2 bl
          have h3 := cPlay (Nd.typ 4 tk []) (Nd.typ 4 an []) t1 a1 a2 a3 (lpI B.length n :: B) f1' (by simp; omega) [s0, s1, s2, s3, s4, s5, s6, s7] rfl hx.S.2 _ vf (fun _ => by omega)
          have h4 := cPlay (Nd.typ 4 tk []) (Nd.typ 4 an []) t1 a1 a2 a3 (List.replicate n B).flatten f2' (by rw [hkl]; omega) [s0, s1, s2, s3, s4, s5, s6, s7] rfl hx.S.2 _ vf (fun _ => by omega)
          rw [playF_loop _ _ _ _ hBt hBj (by omega) bl hn1] at h4
          have m3 := playF_st (tk := Nd.typ 4 tk []) (an := Nd.typ 4 an []) f1' (S := [s0, s1, s2, s3, s4, s5, s6, s7]) rfl hx.S.2 vf
          have w3 := playF_fit (tk := Nd.typ 4 tk []) (an := Nd.typ 4 an []) f1' (S := [s0, s1, s2, s3, s4, s5, s6, s7]) hx.S.2 vf a1
          simp only [Sm11.T, Sm11.A, Sm11.v] at hb
          generalize Nd.typ 4 tk [] = T at *
          generalize Nd.typ 4 an [] = A at *
          generalize buildV lx T = V at *
          generalize prgM q = pp at *
          generalize (lpI B.length n :: B).map Ins.row = R1 at *
          generalize ((List.replicate n B).flatten).map Ins.row = R2 at *
          generalize playF T A (lpI B.length n :: B) [s0, s1, s2, s3, s4, s5, s6, s7] V = X at *
          obtain ⟨L, e, r, w⟩ := X
          obtain ⟨u0, u1, u2, u3, u4, u5, u6, u7, rfl⟩ := len8 m3.1
          simp only at w3
          have hS := C24 e r e r w w w3
          rw [VT.same_refl, beq_self_eq_true, beq_self_eq_true] at hS
          simp only [VT.av_eq] at hb h3 h4
          refine po_c0 (hb) ?_
          refine gor hL ?_; (repeat (clear hL; intro t hL; refine gor hL ?_))
          (refine gor hL ?_; (repeat (clear hL; intro t hL; refine gor hL ?_))); (with_reducible refine po_allocL hL rfl ?_); clear hL; intro p13 t hL
          (refine gor hL ?_; (repeat (clear hL; intro t hL; refine gor hL ?_))); (with_reducible refine po_allocL hL rfl ?_); clear hL; intro p14 t hL
          refine gor hL ?_; (repeat (clear hL; intro t hL; refine gor hL ?_))
          refine po_c0 h3 ?_ ?_
          rotate_left
          · show List.map AV.weak [.agg [.d (.int .u8 T.kind), .d (.int .i64 T.most), .d (.sl (T.names.map fun s => [.str s])), .d (.sl (T.of.map KT.row)), .d (.int .u8 A.kind), .d (.int .i64 A.most), .d (.sl (A.names.map fun s => [.str s])), .d (.sl (A.of.map KT.row)), v1], .agg (sc [s0, s1, s2, s3, s4, s5, s6, s7]), .agg [.d (.int .i64 V.n), .d (.flt .f64 V.f), .d (.str V.s), .d (.sl (V.of.map VT.row))]] = _
            simp only [List.map_cons, List.map_nil, AV.weak, f1_w1]
            rfl
          refine gor hL ?_; (repeat (clear hL; intro t hL; refine gor hL ?_))
          (refine gor hL ?_; (repeat (clear hL; intro t hL; refine gor hL ?_))); (with_reducible refine po_allocL hL rfl ?_); clear hL; intro p15 t hL
          (refine gor hL ?_; (repeat (clear hL; intro t hL; refine gor hL ?_))); (with_reducible refine po_allocL hL rfl ?_); clear hL; intro p16 t hL
          refine gor hL ?_; (repeat (clear hL; intro t hL; refine gor hL ?_))
          refine po_c0 h4 ?_ ?_
          rotate_left
          · show List.map AV.weak [.agg [.d (.int .u8 T.kind), .d (.int .i64 T.most), .d (.sl (T.names.map fun s => [.str s])), .d (.sl (T.of.map KT.row)), .d (.int .u8 A.kind), .d (.int .i64 A.most), .d (.sl (A.names.map fun s => [.str s])), .d (.sl (A.of.map KT.row)), a12], .agg (sc [s0, s1, s2, s3, s4, s5, s6, s7]), .agg [.d (.int .i64 V.n), .d (.flt .f64 V.f), .d (.str V.s), .d (.sl (V.of.map VT.row))]] = _
            simp only [List.map_cons, List.map_nil, AV.weak, f12_w1]
            rfl
          refine gor hL ?_; (repeat (clear hL; intro t hL; refine gor hL ?_))
          (refine gor hL ?_; (repeat (clear hL; intro t hL; refine gor hL ?_))); (with_reducible refine po_allocL hL rfl ?_); clear hL; intro p17 t hL
          (refine gor hL ?_; (repeat (clear hL; intro t hL; refine gor hL ?_))); (with_reducible refine po_allocL hL rfl ?_); clear hL; intro p18 t hL
          refine gor hL ?_; (repeat (clear hL; intro t hL; refine gor hL ?_))
          refine po_c0 (hS) ?_
          refine gor hL ?_; (repeat (clear hL; intro t hL; refine gor hL ?_))
          rw [← hQ]
          exact pfin_pure rfl hL.le
        · intro k hk a12 t hL
          have f12 := hL.vk a12
          obtain ⟨f12_r, f12_w, f12_w1, f12_c, f12_s, f12_d⟩ := id f12
          refine pblock ?_
          refine gor hL ?_; (repeat (clear hL; intro t hL; refine gor hL ?_))
          have hk5 : k * B.length ≤ 5 * 4 := Nat.mul_le_mul (by omega) bl
          have hr' : ((List.replicate k B).flatten).map Ins.row ++ B.map Ins.row = ((List.replicate (k + 1) B).flatten).map Ins.row := by rw [← List.map_append, List.replicate_succ', List.flatten_append]; simp
          refine po_appA hL (hn := rows5) (hrk k) ?_ ?_; (· rw [List.length_map, List.length_map, hkl]; omega); clear hL; intro v2 t f2 hL; obtain ⟨f2_r, f2_w, f2_w1, f2_c, f2_s, f2_d⟩ := id f2
          rw [hr'] at hL
          refine gor hL ?_; (repeat (clear hL; intro t hL; refine gor hL ?_))
          exact ⟨v2, hL.pk, tr2⟩
      · intro k hk a t hL
        obtain ⟨y, hy, hym⟩ := elem_at hk
        have fa := hL.vk a
        obtain ⟨fa_r, fa_w, fa_w1, fa_c, fa_s, fa_d⟩ := id fa
        refine pblock ?_
        (refine gor hL ?_; (repeat (clear hL; intro t hL; refine gor hL ?_))); (with_reducible refine po_allocL hL rfl ?_); clear hL; intro p9 t hL
        have hbs := bodyOf_take hy
        have hbk := bk k
        obtain ⟨op, dst, aa, b, n⟩ := y
        by_cases h9 : op = 9
        · subst h9
          rw [bodyS, if_neg (by simp [jumps])] at hbs
          refine gor hL ?_; (repeat (clear hL; intro t hL; refine gor hL ?_))
          exact ⟨a, by rw [hbs]; exact hL.pk, tr2⟩
        · by_cases h8 : op = 8
          · subst h8
            rw [bodyS, if_neg (by simp [jumps])] at hbs
            refine gor hL ?_; (repeat (clear hL; intro t hL; refine gor hL ?_))
            exact ⟨a, by rw [hbs]; exact hL.pk, tr2⟩
          · have hj : jumps ⟨op, dst, aa, b, n⟩ = false := by simp [jumps, h9, h8]
            have e9 : (op != 9) = true := by simpa using h9
            have e8 : (op != 8) = true := by simpa using h8
            refine gor hL ?_; (repeat (clear hL; intro t hL; refine gor hL ?_))
            refine gnm ?_; rw [e9, e8]
            refine gor hL ?_; (repeat (clear hL; intro t hL; refine gor hL ?_))
            by_cases hb4 : (bodyOf (p.take k)).length < 4
            · rw [bodyS, if_pos ⟨hj, hb4⟩] at hbs
              have hr' : (bodyOf (p.take k)).map Ins.row ++ [(Ins.mk op dst aa b n).row] = (bodyOf (p.take (k + 1))).map Ins.row := by rw [hbs, List.map_append]; rfl
              simp only [Ins.row] at hr'
              refine gnm ?_; rw [show decide (((bodyOf (p.take k)).length : Int) < 4) = true from decide_eq_true (by omega)]
              refine gor hL ?_; (repeat (clear hL; intro t hL; refine gor hL ?_))
              refine po_appA hL (hr5 k) ?_ ?_; (· simp; omega); clear hL; intro a' t f' hL; obtain ⟨f'_r, f'_w, f'_w1, f'_c, f'_s, f'_d⟩ := id f'
              rw [hr'] at hL
              refine gor hL ?_; (repeat (clear hL; intro t hL; refine gor hL ?_))
              exact ⟨a', hL.pk, tr2⟩
            · rw [bodyS, if_neg (fun h => hb4 h.2)] at hbs
              refine gnm ?_; rw [show decide (((bodyOf (p.take k)).length : Int) < 4) = false from decide_eq_false (by omega)]
              refine gor hL ?_; (repeat (clear hL; intro t hL; refine gor hL ?_))
              exact ⟨a, by rw [hbs]; exact hL.pk, tr2⟩
  · have e1 : decide ((l.length : Int) > 20) = true := decide_eq_true (by omega)
    refine gnm ?_; rw [e1]
    refine gor hL ?_; (repeat (clear hL; intro t hL; refine gor hL ?_))
    rw [← hQ]
    exact pfin_pure rfl hL.le
end Go.Pv
