/- Functions of the program, by value. No condition. -/
import Derived.Test.YtidelhpljjjjmaaV16
namespace Go.Pv
open Go.Proofs
set_option maxRecDepth 100000
set_option maxHeartbeats 8000000

theorem flatOwn (most : Int) (T : KT) (v : VT) (hT : T.fit) (hv : v.fit) (hc : VT.is 20 T v = true → v.count < 2 ^ 40) (hfull : VT.is 20 T v = true → ((walkM most 20 T v []).length : Int) ≤ most) : CL (PCalls Try.prog GG) 23 [T.av, v.av, .d (.int .i64 most)] [] (fun a : AV => a) (fun a => [.vec a (rowsI (flatM most T v)) 1]) := by
  refine ⟨Sat.vecs1 _ _ _, ?_⟩
  have hC := C22 T v hT hv
  have hW := fun pq pm pw h h1 => walkC most pq pm pw h 20 T v [] (.full []) h1 hT hv (by simpa using hc h1)
  simp only [KT.av_eq, VT.av_eq, wF, capW] at hC hW ⊢
  intro st t hL; refine pcalls_of k23 e23 (of_decide_eq_true rfl) ?_; dsimp only [c23]; generalize hQ : pfin _ _ = Q
  (refine gor hL ?_; (repeat (clear hL; intro t hL; refine gor hL ?_))); refine po_boxA hL ?_; clear hL; intro p3 t hL
  (refine gor hL ?_; (repeat (clear hL; intro t hL; refine gor hL ?_))); refine po_boxA hL ?_; clear hL; intro p4 t hL
  (refine gor hL ?_; (repeat (clear hL; intro t hL; refine gor hL ?_))); refine po_boxA hL ?_; clear hL; intro p5 t hL
  (refine gor hL ?_; (repeat (clear hL; intro t hL; refine gor hL ?_))); (with_reducible refine po_allocL hL rfl ?_); clear hL; intro p7 t hL
  refine gor hL ?_; (repeat (clear hL; intro t hL; refine gor hL ?_))
  (refine gor hL ?_; (repeat (clear hL; intro t hL; refine gor hL ?_))); (with_reducible refine po_allocL hL rfl ?_); clear hL; intro p8 t hL
  refine gor hL ?_; (repeat (clear hL; intro t hL; refine gor hL ?_))
  refine pjoin (fun s u => ∃ a l, l = (if VT.is 20 T v = true then walkM most 20 T v [] else []) ∧ s = put (put (fun _ => .undef) (some 7) (ptrAt p7)) (some 5) (ptrAt p5) ∧ Lay st [.vec a (rowsI l) 1, .box p7 [a], .box p5 [.d (.int .i64 most)]] u) ?_ ?_
  · refine gor hL ?_; (repeat (clear hL; intro t hL; refine gor hL ?_))
    refine po_c0 (hC) ?_
    refine gor hL ?_; (repeat (clear hL; intro t hL; refine gor hL ?_))
    refine pcond_b rfl (fun h => ?_) (fun h => ?_)
    · have h' : VT.is 20 T v = true := by
        unfold VT.checkE at h
        split at h
        · assumption
        · simp at h
      refine gor hL ?_; (repeat (clear hL; intro t hL; refine gor hL ?_))
      have hnd : [p7, p5, p8].Nodup := by
        have h1 := hL.apart
        simp [Item.blk] at h1
        simp
        omega
      replace hL := hL.full [] 1
      refine po_callvK hL (hW p7 p5 p8 hnd h') ?_
      clear hL; intro a t hL
      refine gor hL ?_; (repeat (clear hL; intro t hL; refine gor hL ?_))
      refine ⟨a, _, by rw [if_pos h'], tr2, hL.pk⟩
    · have h' : ¬ VT.is 20 T v = true := by
        unfold VT.checkE at h
        split at h
        · simp at h
        · assumption
      refine gor hL ?_; (repeat (clear hL; intro t hL; refine gor hL ?_))
      replace hL := hL.full [] 1
      exact ⟨_, [], by rw [if_neg h'], tr2, hL.pk⟩
  rintro s t ⟨a, l, hl, rfl, hL⟩
  have fa := hL.vk a
  obtain ⟨fa_r, fa_w, fa_w1, fa_c, fa_s, fa_d⟩ := id fa
  refine gor hL ?_; (repeat (clear hL; intro t hL; refine gor hL ?_))
  have e1 : (if False then if (if True then if (0 : Int) > most then 0 else most else if 0 < most then 0 else most) > (l.length : Int) then if True then if (0 : Int) > most then 0 else most else if 0 < most then 0 else most else (l.length : Int) else if (if True then if (0 : Int) > most then 0 else most else if 0 < most then 0 else most) < (l.length : Int) then if True then if (0 : Int) > most then 0 else most else if 0 < most then 0 else most else (l.length : Int)) = ((min l.length (max most 0).toNat : Nat) : Int) := by
    simp only [if_true, if_false]
    repeat' split
    all_goals omega
  refine gnm ?_; rw [e1]
  have hll : (l.length : Int) ≤ max most 0 := by
    rw [hl]
    split
    · rename_i h; have := hfull h; omega
    · simp; omega
  have hfm : flatM most T v = l := by
    rw [flatM, hl]
    split
    · rename_i h
      rw [hl, if_pos h] at hll
      exact List.take_of_length_le (by omega)
    · rfl
  rw [hfm] at hQ
  have e : (if min l.length (max most 0).toNat = (rowsI l).length then a else AV.d (.sl ((rowsI l).take (min l.length (max most 0).toNat)))) = a := if_pos (by rw [List.length_map]; omega)
  refine po rfl (slc_rowsV fa rfl rfl (by rw [List.length_map]; omega)) ?_
  rw [e]
  refine gor hL ?_; (repeat (clear hL; intro t hL; refine gor hL ?_))
  rw [← hQ]
  exact pfinK a rfl (.inl rfl) hL
end Go.Pv
