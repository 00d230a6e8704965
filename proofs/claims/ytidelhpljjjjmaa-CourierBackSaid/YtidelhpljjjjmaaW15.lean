/- Functions of the program, by value. No condition. -/
import Derived.Test.YtidelhpljjjjmaaW14
namespace Go.Pv
open Go.Proofs
set_option maxRecDepth 100000
set_option maxHeartbeats 8000000

theorem flat_stepN {f : Nat → List Int} {pre : List Int} {k : Nat} : (pre ++ (List.range k).flatMap f) ++ f k = pre ++ (List.range (k + 1)).flatMap f := by
  rw [List.range_succ, List.flatMap_append, List.append_assoc]
  simp
theorem refPutC : ∀ (e : Nat) (T : KT) (v : VT), WT e T → VT.is e T v = true → v.fit → (putR e T v).length < 2 ^ 40 → CL (PCalls Try.prog GG) 31 [T.rav, v.av] [] (fun a : AV => a) (fun a => [.vec a (rowsB (putR e T v)) 1]) := by
  intro e
  induction e with
  | zero => intro T v h; cases h
  | succ d ih =>
  intro T v hw his hv hlen
  have hvl := hv.len
  refine ⟨Sat.vecs1 _ _ _, ?_⟩
  cases hw with
  | base _ k hk =>
    have : k = 0 ∨ k = 1 ∨ k = 2 ∨ k = 3 := by omega
    rcases this with rfl | rfl | rfl | rfl
    · rw [is0] at his
      simp only [pvq] at his
      have hz : v.of.length = 0 := by omega
      rw [put0 _ _ _ _ _ (by decide) hz] at hlen ⊢
      simp only [KT.rav_eq, VT.av_eq, KT.pj, List.map_nil, List.length_nil]
      have h1 := refWord v.n (by omega)
      intro st t hL; refine pcalls_of k31 e31 (of_decide_eq_true rfl) ?_; dsimp only [c31]; generalize hQ : pfin _ _ = Q
      (refine gor hL ?_; (repeat (clear hL; intro t hL; refine gor hL ?_))); refine po_boxA hL ?_; clear hL; intro p2 t hL
      (refine gor hL ?_; (repeat (clear hL; intro t hL; refine gor hL ?_))); refine po_boxA hL ?_; clear hL; intro p3 t hL
      refine gor hL ?_; (repeat (clear hL; intro t hL; refine gor hL ?_)); (repeat (refine pseqk ?_; refine gor hL ?_; (repeat (clear hL; intro t hL; refine gor hL ?_))))
      refine po_callK hL (h1) ?_; clear hL; intro b t hL; have fb := hL.vk b; obtain ⟨fb_r, fb_w, fb_w1, fb_c, fb_s, fb_d⟩ := id fb
      refine gor hL ?_; (repeat (clear hL; intro t hL; refine gor hL ?_)); (repeat (refine pseqk ?_; refine gor hL ?_; (repeat (clear hL; intro t hL; refine gor hL ?_))))
      rw [← hQ]
      exact pfinK b rfl (.inl rfl) hL
    · rw [is1] at his
      simp only [pvq] at his
      have hz : v.of.length = 0 := by omega
      rw [put0 _ _ _ _ _ (by decide) hz] at hlen ⊢
      simp only [KT.rav_eq, VT.av_eq, KT.pj, List.map_nil, List.length_nil]
      have h1 := refWord v.n (by omega)
      intro st t hL; refine pcalls_of k31 e31 (of_decide_eq_true rfl) ?_; dsimp only [c31]; generalize hQ : pfin _ _ = Q
      (refine gor hL ?_; (repeat (clear hL; intro t hL; refine gor hL ?_))); refine po_boxA hL ?_; clear hL; intro p2 t hL
      (refine gor hL ?_; (repeat (clear hL; intro t hL; refine gor hL ?_))); refine po_boxA hL ?_; clear hL; intro p3 t hL
      refine gor hL ?_; (repeat (clear hL; intro t hL; refine gor hL ?_)); (repeat (refine pseqk ?_; refine gor hL ?_; (repeat (clear hL; intro t hL; refine gor hL ?_))))
      refine po_callK hL (h1) ?_; clear hL; intro b t hL; have fb := hL.vk b; obtain ⟨fb_r, fb_w, fb_w1, fb_c, fb_s, fb_d⟩ := id fb
      refine gor hL ?_; (repeat (clear hL; intro t hL; refine gor hL ?_)); (repeat (refine pseqk ?_; refine gor hL ?_; (repeat (clear hL; intro t hL; refine gor hL ?_))))
      rw [← hQ]
      exact pfinK b rfl (.inl rfl) hL
    · rw [is2] at his
      simp only [pvq] at his
      rw [show putR (d + 1) (.mk 2 0 [] []) v = longB (v.n % 4294967296) from rfl] at hlen ⊢
      simp only [KT.rav_eq, VT.av_eq, KT.pj, List.map_nil, List.length_nil]
      have h1 := refLong (v.n % 4294967296) (by omega)
      intro st t hL; refine pcalls_of k31 e31 (of_decide_eq_true rfl) ?_; dsimp only [c31]; generalize hQ : pfin _ _ = Q
      (refine gor hL ?_; (repeat (clear hL; intro t hL; refine gor hL ?_))); refine po_boxA hL ?_; clear hL; intro p2 t hL
      (refine gor hL ?_; (repeat (clear hL; intro t hL; refine gor hL ?_))); refine po_boxA hL ?_; clear hL; intro p3 t hL
      refine gor hL ?_; (repeat (clear hL; intro t hL; refine gor hL ?_)); (repeat (refine pseqk ?_; refine gor hL ?_; (repeat (clear hL; intro t hL; refine gor hL ?_))))
      refine gnm ?_; rw [IntKind.wrap_u32]
      refine po_callK hL (h1) ?_; clear hL; intro b t hL; have fb := hL.vk b; obtain ⟨fb_r, fb_w, fb_w1, fb_c, fb_s, fb_d⟩ := id fb
      refine gor hL ?_; (repeat (clear hL; intro t hL; refine gor hL ?_)); (repeat (refine pseqk ?_; refine gor hL ?_; (repeat (clear hL; intro t hL; refine gor hL ?_))))
      rw [← hQ]
      exact pfinK b rfl (.inl rfl) hL
    · rw [show putR (d + 1) (.mk 3 0 [] []) v = quadB (fbits v.f) from rfl] at hlen ⊢
      simp only [KT.rav_eq, VT.av_eq, KT.pj, List.map_nil, List.length_nil]
      have h1 := refQuad (fbits v.f) (fbits_in _ hv.flt)
      have hB := C41 v.f
      intro st t hL; refine pcalls_of k31 e31 (of_decide_eq_true rfl) ?_; dsimp only [c31]; generalize hQ : pfin _ _ = Q
      (refine gor hL ?_; (repeat (clear hL; intro t hL; refine gor hL ?_))); refine po_boxA hL ?_; clear hL; intro p2 t hL
      (refine gor hL ?_; (repeat (clear hL; intro t hL; refine gor hL ?_))); refine po_boxA hL ?_; clear hL; intro p3 t hL
      refine gor hL ?_; (repeat (clear hL; intro t hL; refine gor hL ?_)); (repeat (refine pseqk ?_; refine gor hL ?_; (repeat (clear hL; intro t hL; refine gor hL ?_))))
      refine po_c0 (hB) ?_
      refine gor hL ?_; (repeat (clear hL; intro t hL; refine gor hL ?_))
      refine po_callK hL (h1) ?_; clear hL; intro b t hL; have fb := hL.vk b; obtain ⟨fb_r, fb_w, fb_w1, fb_c, fb_s, fb_d⟩ := id fb
      refine gor hL ?_; (repeat (clear hL; intro t hL; refine gor hL ?_)); (repeat (refine pseqk ?_; refine gor hL ?_; (repeat (clear hL; intro t hL; refine gor hL ?_))))
      rw [← hQ]
      exact pfinK b rfl (.inl rfl) hL
  | text _ m hm =>
    rw [is4] at his
    simp only [pvq] at his
    rw [show putR (d + 1) (.mk 4 m [] []) v = textB v.s from rfl] at hlen ⊢
    simp only [KT.rav_eq, VT.av_eq, KT.pj, List.map_nil, List.length_nil]
    have h1 := refText v.s (by omega)
    intro st t hL; refine pcalls_of k31 e31 (of_decide_eq_true rfl) ?_; dsimp only [c31]; generalize hQ : pfin _ _ = Q
    (refine gor hL ?_; (repeat (clear hL; intro t hL; refine gor hL ?_))); refine po_boxA hL ?_; clear hL; intro p2 t hL
    (refine gor hL ?_; (repeat (clear hL; intro t hL; refine gor hL ?_))); refine po_boxA hL ?_; clear hL; intro p3 t hL
    refine gor hL ?_; (repeat (clear hL; intro t hL; refine gor hL ?_)); (repeat (refine pseqk ?_; refine gor hL ?_; (repeat (clear hL; intro t hL; refine gor hL ?_))))
    refine po_callK hL (h1) ?_; clear hL; intro b t hL; have fb := hL.vk b; obtain ⟨fb_r, fb_w, fb_w1, fb_c, fb_s, fb_d⟩ := id fb
    refine gor hL ?_; (repeat (clear hL; intro t hL; refine gor hL ?_)); (repeat (refine pseqk ?_; refine gor hL ?_; (repeat (clear hL; intro t hL; refine gor hL ?_))))
    rw [← hQ]
    exact pfinK b rfl (.inl rfl) hL
  | enum _ n hl hf =>
    rw [is7] at his
    simp only [pvq] at his
    have hz : v.of.length = 0 := by omega
    rw [put0 _ _ _ _ _ (by decide) hz] at hlen ⊢
    simp only [KT.rav_eq, VT.av_eq, KT.pj, List.map_nil, List.length_nil]
    have h1 := refWord v.n (by omega)
    intro st t hL; refine pcalls_of k31 e31 (of_decide_eq_true rfl) ?_; dsimp only [c31]; generalize hQ : pfin _ _ = Q
    (refine gor hL ?_; (repeat (clear hL; intro t hL; refine gor hL ?_))); refine po_boxA hL ?_; clear hL; intro p2 t hL
    (refine gor hL ?_; (repeat (clear hL; intro t hL; refine gor hL ?_))); refine po_boxA hL ?_; clear hL; intro p3 t hL
    refine gor hL ?_; (repeat (clear hL; intro t hL; refine gor hL ?_)); (repeat (refine pseqk ?_; refine gor hL ?_; (repeat (clear hL; intro t hL; refine gor hL ?_))))
    refine po_callK hL (h1) ?_; clear hL; intro b t hL; have fb := hL.vk b; obtain ⟨fb_r, fb_w, fb_w1, fb_c, fb_s, fb_d⟩ := id fb
    refine gor hL ?_; (repeat (clear hL; intro t hL; refine gor hL ?_)); (repeat (refine pseqk ?_; refine gor hL ?_; (repeat (clear hL; intro t hL; refine gor hL ?_))))
    rw [← hQ]
    exact pfinK b rfl (.inl rfl) hL
  | seq _ m o hm ho =>
    rw [is5] at his
    simp only [pvq] at his
    have hall := List.all_eq_true.1 his.2
    rw [put5] at hlen ⊢
    simp only [KT.rav_eq, VT.av_eq, KT.pj, List.map_nil, List.map_cons, List.length_nil]
    have h1 := refWord v.of.length (by omega)
    intro st t hL; refine pcalls_of k31 e31 (of_decide_eq_true rfl) ?_; dsimp only [c31]; generalize hQ : pfin _ _ = Q
    (refine gor hL ?_; (repeat (clear hL; intro t hL; refine gor hL ?_))); refine po_boxA hL ?_; clear hL; intro p2 t hL
    (refine gor hL ?_; (repeat (clear hL; intro t hL; refine gor hL ?_))); refine po_boxA hL ?_; clear hL; intro p3 t hL
    refine gor hL ?_; (repeat (clear hL; intro t hL; refine gor hL ?_)); (repeat (refine pseqk ?_; refine gor hL ?_; (repeat (clear hL; intro t hL; refine gor hL ?_))))
    refine po_callK hL (h1) ?_; clear hL; intro c t hL; have fc := hL.vk c; obtain ⟨fc_r, fc_w, fc_w1, fc_c, fc_s, fc_d⟩ := id fc
    refine gor hL ?_; (repeat (clear hL; intro t hL; refine gor hL ?_)); (repeat (refine pseqk ?_; refine gor hL ?_; (repeat (clear hL; intro t hL; refine gor hL ?_))))
    refine pblock (pupA v.of.length (fun j s u => ∃ b, s = put (put (put (put (fun _ => .undef) (some 3) (ptrAt p3)) (some 2) (ptrAt p2)) (some 6) (i64 j)) (some 5) b ∧ Lay st [.vec b (rowsB (wordB v.of.length ++ (List.range j).flatMap (fun i => putR d o (v.of.getD i VT.zero)))) 1, .box p3 [.d (.int .i64 v.n), .d (.flt .f64 v.f), .d (.str v.s), .d (.sl (v.of.map VT.row))], .box p2 [.d (.int .i64 5), .d (.int .i64 m), .d (.int .i64 (0 : Nat)), .d (.sl [o.rrow])]] u) ⟨_, (by first | exact trimA | simp +decide only [pvc, pvi, pvt]), by simp only [List.range_zero, List.flatMap_nil, List.append_nil]; exact hL.pk⟩ ?_)
    clear hL
    rintro j s t hj ⟨b, rfl, hL⟩
    have fb := hL.vk b
    obtain ⟨fb_r, fb_w, fb_w1, fb_c, fb_s, fb_d⟩ := id fb
    refine gor hL ?_; (repeat (clear hL; intro t hL; refine gor hL ?_))
    refine pcond_b rfl (fun h => ?_) (fun h => ?_)
    · have hj' : j < v.of.length := by simpa using h
      obtain ⟨x, hx, hxm⟩ := elem_at hj'
      have e1 : v.of.getD j VT.zero = x := by rw [List.getD_eq_getElem?_getD, hx]; rfl
      have hpl := pre_len (f := (fun i => putR d o (v.of.getD i VT.zero))) (k := j + 1) (n := v.of.length) hj'
      rw [List.range_succ, List.flatMap_append, List.length_append] at hpl
      simp only [List.flatMap_cons, List.flatMap_nil, List.append_nil, e1] at hpl
      simp only [List.length_append] at hlen
      have hi := ih o x ho (hall x hxm) (hv.part hxm) (by omega)
      simp only [KT.rav_eq, VT.av_eq] at hi
      refine gor hL ?_; (repeat (clear hL; intro t hL; refine gor hL ?_))
      refine pblock ?_
      refine gor hL ?_; (repeat (clear hL; intro t hL; refine gor hL ?_))
      refine po_iaddr0 (l := [o]) (f := KT.rrow) rfl (KT.rrow_len o) ?_
      refine gor hL ?_; (repeat (clear hL; intro t hL; refine gor hL ?_))
      refine po_callK hL (hi) ?_; clear hL; intro b' t hL; have fb' := hL.vk b'; obtain ⟨fb'_r, fb'_w, fb'_w1, fb'_c, fb'_s, fb'_d⟩ := id fb'
      refine gor hL ?_; (repeat (clear hL; intro t hL; refine gor hL ?_))
      refine po_appA (v := b) (hn := rowsB_len _) hL (rowsB_len _) ?_ ?_ (hx := rfl) (hy := fb'_r)
      · simp only [List.length_map, List.length_append] at hlen ⊢; omega
      clear hL; intro c' t fc' hL
      have hst := flat_stepN (f := (fun i => putR d o (v.of.getD i VT.zero))) (pre := wordB v.of.length) (k := j)
      simp only [e1] at hst
      rw [rowsB_app, hst] at hL fc'
      refine gor hL ?_; (repeat (clear hL; intro t hL; refine gor hL ?_))
      refine gnm ?_; rw [IntWalk.i64_in ((j : Int) + 1) (by omega)]
      exact ⟨hj', c', (by first | exact trimA | simp +decide only [pvc, pvi, pvt]), hL.pk⟩
    · have hj' : ¬ j < v.of.length := by simpa using h
      obtain rfl : j = v.of.length := by omega
      refine gor hL ?_; (repeat (clear hL; intro t hL; refine gor hL ?_)); (repeat (refine pseqk ?_; refine gor hL ?_; (repeat (clear hL; intro t hL; refine gor hL ?_))))
      rw [← hQ]
      exact pfinK b rfl (.inl rfl) hL
  | reco _ k n o hk hl hn hf ho =>
    rcases hk with rfl | rfl
    · rw [is6] at his
      simp only [pvq] at his
      rw [put6] at hlen ⊢
      simp only [KT.rav_eq, VT.av_eq, KT.pj, List.map_nil, List.length_nil]
      intro st t hL; refine pcalls_of k31 e31 (of_decide_eq_true rfl) ?_; dsimp only [c31]; generalize hQ : pfin _ _ = Q
      (refine gor hL ?_; (repeat (clear hL; intro t hL; refine gor hL ?_))); refine po_boxA hL ?_; clear hL; intro p2 t hL
      (refine gor hL ?_; (repeat (clear hL; intro t hL; refine gor hL ?_))); refine po_boxA hL ?_; clear hL; intro p3 t hL
      refine gor hL ?_; (repeat (clear hL; intro t hL; refine gor hL ?_)); (repeat (refine pseqk ?_; refine gor hL ?_; (repeat (clear hL; intro t hL; refine gor hL ?_))))
      replace hL := hL.full [] 1
      refine pblock (pupA v.of.length (fun j s u => ∃ b, s = put (put (put (put (fun _ => .undef) (some 3) (ptrAt p3)) (some 2) (ptrAt p2)) (some 7) (i64 j)) (some 5) b ∧ Lay st [.vec b (rowsB ([] ++ (List.range j).flatMap (fun i => putR d (o.getD i (.mk 0 0 [] [])) (v.of.getD i VT.zero)))) 1, .box p3 [.d (.int .i64 v.n), .d (.flt .f64 v.f), .d (.str v.s), .d (.sl (v.of.map VT.row))], .box p2 [.d (.int .i64 6), .d (.int .i64 0), .d (.int .i64 n.length), .d (.sl (o.map KT.rrow))]] u) ⟨_, (by first | exact trimA | simp +decide only [pvc, pvi, pvt]), by simp only [List.range_zero, List.flatMap_nil, List.append_nil]; exact hL.pk⟩ ?_)
      clear hL
      rintro j s t hj ⟨b, rfl, hL⟩
      have fb := hL.vk b
      obtain ⟨fb_r, fb_w, fb_w1, fb_c, fb_s, fb_d⟩ := id fb
      refine gor hL ?_; (repeat (clear hL; intro t hL; refine gor hL ?_))
      refine pcond_b rfl (fun h => ?_) (fun h => ?_)
      · have hj' : j < v.of.length := by simpa using h
        obtain ⟨x, hx, hxm⟩ := elem_at hj'
        have e1 : v.of.getD j VT.zero = x := by rw [List.getD_eq_getElem?_getD, hx]; rfl
        obtain ⟨y, hy, hym⟩ := elem_at (l := o) (k := j) (by omega)
        have e2 : o.getD j (.mk 0 0 [] []) = y := by rw [List.getD_eq_getElem?_getD, hy]; rfl
        have hpl := pre_len (f := (fun i => putR d (o.getD i (.mk 0 0 [] [])) (v.of.getD i VT.zero))) (k := j + 1) (n := v.of.length) hj'
        rw [List.range_succ, List.flatMap_append, List.length_append] at hpl
        simp only [List.flatMap_cons, List.flatMap_nil, List.append_nil, e1, e2] at hpl
        simp only [List.length_append] at hlen
        have hi := ih y x (ho y hym) (allZip_get his.2 j y x hy hx) (hv.part hxm) (by omega)
        simp only [KT.rav_eq, VT.av_eq] at hi
        refine gor hL ?_; (repeat (clear hL; intro t hL; refine gor hL ?_))
        refine pblock ?_
        refine gor hL ?_; (repeat (clear hL; intro t hL; refine gor hL ?_))
        refine po_callK hL (hi) ?_; clear hL; intro b' t hL; have fb' := hL.vk b'; obtain ⟨fb'_r, fb'_w, fb'_w1, fb'_c, fb'_s, fb'_d⟩ := id fb'
        refine gor hL ?_; (repeat (clear hL; intro t hL; refine gor hL ?_))
        refine po_appA (v := b) (hn := rowsB_len _) hL (rowsB_len _) ?_ ?_ (hx := rfl) (hy := fb'_r)
        · simp only [List.length_map, List.length_append] at hlen ⊢; omega
        clear hL; intro c' t fc' hL
        have hst := flat_stepN (f := (fun i => putR d (o.getD i (.mk 0 0 [] [])) (v.of.getD i VT.zero))) (pre := []) (k := j)
        simp only [e1, e2] at hst
        rw [rowsB_app, hst] at hL fc'
        refine gor hL ?_; (repeat (clear hL; intro t hL; refine gor hL ?_))
        refine gnm ?_; rw [IntWalk.i64_in ((j : Int) + 1) (by omega)]
        exact ⟨hj', c', (by first | exact trimA | simp +decide only [pvc, pvi, pvt]), hL.pk⟩
      · have hj' : ¬ j < v.of.length := by simpa using h
        obtain rfl : j = v.of.length := by omega
        refine gor hL ?_; (repeat (clear hL; intro t hL; refine gor hL ?_)); (repeat (refine pseqk ?_; refine gor hL ?_; (repeat (clear hL; intro t hL; refine gor hL ?_))))
        rw [← hQ]
        exact pfinK b rfl (.inl rfl) hL
    · rw [is8] at his
      simp only [pvq] at his
      obtain ⟨k, hk⟩ : ∃ k : Nat, v.n = k := ⟨v.n.toNat, by omega⟩
      obtain ⟨y, hy, hym⟩ := elem_at (l := o) (k := k) (by omega)
      obtain ⟨x, hx, hxm⟩ := elem_at (l := v.of) (k := 0) (by omega)
      have e1 : v.of.getD 0 VT.zero = x := by rw [List.getD_eq_getElem?_getD, hx]; rfl
      have e2 : o.getD v.n.toNat (.mk 0 0 [] []) = y := by rw [hk, Int.toNat_natCast, List.getD_eq_getElem?_getD, hy]; rfl
      have hix := his.2
      rw [e1, e2] at hix
      have hp8 : putR (d + 1) (.mk 8 0 n o) v = wordB v.n ++ putR d y x := by
        rw [put8, his.1.2.2]
        simp only [List.range_succ, List.range_zero, List.nil_append, List.flatMap_cons, List.flatMap_nil, List.append_nil, e1, e2]
      rw [hp8] at hlen ⊢
      rw [List.length_append] at hlen
      have h1 := refWord v.n (by omega)
      have hi := ih y x (ho y hym) hix (hv.part hxm) (by omega)
      simp only [KT.rav_eq, VT.av_eq, KT.pj] at hi ⊢
      intro st t hL; refine pcalls_of k31 e31 (of_decide_eq_true rfl) ?_; dsimp only [c31]; generalize hQ : pfin _ _ = Q
      (refine gor hL ?_; (repeat (clear hL; intro t hL; refine gor hL ?_))); refine po_boxA hL ?_; clear hL; intro p2 t hL
      (refine gor hL ?_; (repeat (clear hL; intro t hL; refine gor hL ?_))); refine po_boxA hL ?_; clear hL; intro p3 t hL
      refine gor hL ?_; (repeat (clear hL; intro t hL; refine gor hL ?_)); (repeat (refine pseqk ?_; refine gor hL ?_; (repeat (clear hL; intro t hL; refine gor hL ?_))))
      refine po_callK hL (h1) ?_; clear hL; intro c t hL; have fc := hL.vk c; obtain ⟨fc_r, fc_w, fc_w1, fc_c, fc_s, fc_d⟩ := id fc
      refine gor hL ?_; (repeat (clear hL; intro t hL; refine gor hL ?_)); (repeat (refine pseqk ?_; refine gor hL ?_; (repeat (clear hL; intro t hL; refine gor hL ?_))))
      refine gnm ?_; rw [hk]
      refine gor hL ?_; (repeat (clear hL; intro t hL; refine gor hL ?_))
      refine po_callK hL (hi) ?_; clear hL; intro c2 t hL; have fc2 := hL.vk c2; obtain ⟨fc2_r, fc2_w, fc2_w1, fc2_c, fc2_s, fc2_d⟩ := id fc2
      refine gor hL ?_; (repeat (clear hL; intro t hL; refine gor hL ?_))
      refine po_appA (v := c) (hn := rowsB_len _) hL (rowsB_len _) ?_ ?_ (hx := rfl) (hy := fc2_r)
      · simp only [List.length_map, wordB_len] at hlen ⊢; omega
      clear hL; intro c' t fc' hL
      rw [rowsB_app] at hL fc'
      obtain ⟨fc'_r, fc'_w, fc'_w1, fc'_c, fc'_s, fc'_d⟩ := id fc'
      refine gor hL ?_; (repeat (clear hL; intro t hL; refine gor hL ?_)); (repeat (refine pseqk ?_; refine gor hL ?_; (repeat (clear hL; intro t hL; refine gor hL ?_))))
      rw [← hQ]
      exact pfinK c' rfl (.inl rfl) hL
end Go.Pv
