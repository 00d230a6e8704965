/- Functions of the program, by value. No condition. -/
import Derived.Test.YtidelhpljjjjmaaW8
namespace Go.Pv
open Go.Proofs
set_option maxRecDepth 100000
set_option maxHeartbeats 8000000

/-- The error at the end. -/
def endN (l : List Int) (s : RS) : Int := if s.e = 0 ∧ s.p < l.length then 12 else s.e
/-- A value of bytes, the error's number. -/
def takeV (l : List Int) (d : Nat) (T : KT) : VT := if l.length ≤ 4000 ∧ endN l (takeM l d T ⟨0, 0⟩).2 = 0 then (takeM l d T ⟨0, 0⟩).1 else VT.zero
def takeN (l : List Int) (d : Nat) (T : KT) : Int := if l.length ≤ 4000 then endN l (takeM l d T ⟨0, 0⟩).2 else 6
theorem C30 (l : List Int) (hb : bytesL l) (hl : l.length < 2 ^ 40) {d : Nat} {T : KT} (hW : WO d T) (hd : d ≤ 20) : Pure (PCalls Try.prog GG) 30 [T.av, .d (.sl (rowsB l))] (.tup [(takeV l d T).av, .d (.int .i64 (takeN l d T))]) := by
  have c1 := rdRead l hl
  have c2 := fun x : Nat × AV => takeC l hb hl hW 20 (by omega) x.1 x.2 ⟨0, 0⟩ ⟨Nat.zero_le _, by decide⟩
  have c3 := fun pr a => rdEnd pr a l (takeM l d T ⟨0, 0⟩).2
  have hc : ∀ s : RS, (if s.e = 0 ∧ s.p < l.length then 12 else s.e) = endN l s := fun _ => rfl
  rw [takeV, takeN]
  simp only [hc] at c3
  by_cases h40 : l.length ≤ 4000
  · simp only [h40, true_and, if_true]
    generalize takeM l d T ⟨0, 0⟩ = TK at *
    obtain ⟨x, q⟩ := TK
    simp only at c2 c3 ⊢
    generalize endN l q = e at *
    by_cases he : e = 0
    · subst he
      simp only [if_true, tkq] at *
      intro st; refine pcalls_of k30 e30 (of_decide_eq_true rfl) ?_; dsimp only [c30]; refine pstartL ?_; intro t hL; generalize hQ : pfin _ _ = Q
      (refine gor hL ?_; (repeat (clear hL; intro t hL; refine gor hL ?_))); refine po_boxA hL ?_; clear hL; intro p2 t hL
      (refine gor hL ?_; (repeat (clear hL; intro t hL; refine gor hL ?_))); (with_reducible refine po_allocL hL rfl ?_); clear hL; intro p4 t hL
      refine gor hL ?_; (repeat (clear hL; intro t hL; refine gor hL ?_)); (repeat (refine pseqk ?_; refine gor hL ?_; (repeat (clear hL; intro t hL; refine gor hL ?_))))
      refine pcond_b rfl (fun h5 => ?_) (fun h5 => ?_)
      · exfalso
        have : (l.length : Int) > 4000 := by simpa using h5
        omega
      refine gor hL ?_; (repeat (clear hL; intro t hL; refine gor hL ?_)); (repeat (refine pseqk ?_; refine gor hL ?_; (repeat (clear hL; intro t hL; refine gor hL ?_))))
      refine po_callK hL c1 ?_
      clear hL; intro z t hL
      have c2' := c2 z
      obtain ⟨pr, a⟩ := z
      simp only at hL c2'
      refine gor hL ?_; (repeat (clear hL; intro t hL; refine gor hL ?_)); (repeat (refine pseqk ?_; refine gor hL ?_; (repeat (clear hL; intro t hL; refine gor hL ?_))))
      refine po_callK hL (c2') ?_; clear hL; intro b t hL; have fb := hL.vk b; obtain ⟨fb_r, fb_w, fb_w1, fb_c, fb_s, fb_d⟩ := id fb
      refine gor hL ?_; (repeat (clear hL; intro t hL; refine gor hL ?_))
      (refine gor hL ?_; (repeat (clear hL; intro t hL; refine gor hL ?_))); (with_reducible refine po_allocL hL rfl ?_); clear hL; intro p7 t hL
      refine gor hL ?_; (repeat (clear hL; intro t hL; refine gor hL ?_)); (repeat (refine pseqk ?_; refine gor hL ?_; (repeat (clear hL; intro t hL; refine gor hL ?_))))
      refine po_callK hL ((c3 _ _)) ?_; clear hL; intro b' t hL; have fb' := hL.vk b'; obtain ⟨fb'_r, fb'_w, fb'_w1, fb'_c, fb'_s, fb'_d⟩ := id fb'
      refine gor hL ?_; (repeat (clear hL; intro t hL; refine gor hL ?_)); (repeat (refine pseqk ?_; refine gor hL ?_; (repeat (clear hL; intro t hL; refine gor hL ?_))))
      rw [← hQ]
      exact pfin_weak (pret_two (pres_cellL hL rfl (by repeat (first | exact Rem.head | apply Rem.tail)) rfl) rfl) rfl hL.le
    · rw [if_neg he]
      have he' : (e != 0) = true := by simpa using he
      rw [VT.zero]
      simp only [tkq] at *
      intro st; refine pcalls_of k30 e30 (of_decide_eq_true rfl) ?_; dsimp only [c30]; refine pstartL ?_; intro t hL; generalize hQ : pfin _ _ = Q
      (refine gor hL ?_; (repeat (clear hL; intro t hL; refine gor hL ?_))); refine po_boxA hL ?_; clear hL; intro p2 t hL
      (refine gor hL ?_; (repeat (clear hL; intro t hL; refine gor hL ?_))); (with_reducible refine po_allocL hL rfl ?_); clear hL; intro p4 t hL
      refine gor hL ?_; (repeat (clear hL; intro t hL; refine gor hL ?_)); (repeat (refine pseqk ?_; refine gor hL ?_; (repeat (clear hL; intro t hL; refine gor hL ?_))))
      refine pcond_b rfl (fun h5 => ?_) (fun h5 => ?_)
      · exfalso
        have : (l.length : Int) > 4000 := by simpa using h5
        omega
      refine gor hL ?_; (repeat (clear hL; intro t hL; refine gor hL ?_)); (repeat (refine pseqk ?_; refine gor hL ?_; (repeat (clear hL; intro t hL; refine gor hL ?_))))
      refine po_callK hL c1 ?_
      clear hL; intro z t hL
      have c2' := c2 z
      obtain ⟨pr, a⟩ := z
      simp only at hL c2'
      refine gor hL ?_; (repeat (clear hL; intro t hL; refine gor hL ?_)); (repeat (refine pseqk ?_; refine gor hL ?_; (repeat (clear hL; intro t hL; refine gor hL ?_))))
      refine po_callK hL (c2') ?_; clear hL; intro b t hL; have fb := hL.vk b; obtain ⟨fb_r, fb_w, fb_w1, fb_c, fb_s, fb_d⟩ := id fb
      refine gor hL ?_; (repeat (clear hL; intro t hL; refine gor hL ?_))
      (refine gor hL ?_; (repeat (clear hL; intro t hL; refine gor hL ?_))); (with_reducible refine po_allocL hL rfl ?_); clear hL; intro p7 t hL
      refine gor hL ?_; (repeat (clear hL; intro t hL; refine gor hL ?_)); (repeat (refine pseqk ?_; refine gor hL ?_; (repeat (clear hL; intro t hL; refine gor hL ?_))))
      refine po_callK hL ((c3 _ _)) ?_; clear hL; intro b' t hL; have fb' := hL.vk b'; obtain ⟨fb'_r, fb'_w, fb'_w1, fb'_c, fb'_s, fb'_d⟩ := id fb'
      refine gor hL ?_; (repeat (clear hL; intro t hL; refine gor hL ?_)); (repeat (refine pseqk ?_; refine gor hL ?_; (repeat (clear hL; intro t hL; refine gor hL ?_))))
      refine gnm ?_; rw [he']
      refine gor hL ?_; (repeat (clear hL; intro t hL; refine gor hL ?_)); (repeat (refine pseqk ?_; refine gor hL ?_; (repeat (clear hL; intro t hL; refine gor hL ?_))))
      rw [← hQ]
      exact pfin_weak (pret_two (pres_cellL hL rfl (by repeat (first | exact Rem.head | apply Rem.tail)) rfl) rfl) rfl hL.le
  · rw [if_neg (fun h => h40 h.1), if_neg h40, VT.zero]
    simp only [tkq] at *
    intro st; refine pcalls_of k30 e30 (of_decide_eq_true rfl) ?_; dsimp only [c30]; refine pstartL ?_; intro t hL; generalize hQ : pfin _ _ = Q
    (refine gor hL ?_; (repeat (clear hL; intro t hL; refine gor hL ?_))); refine po_boxA hL ?_; clear hL; intro p2 t hL
    (refine gor hL ?_; (repeat (clear hL; intro t hL; refine gor hL ?_))); (with_reducible refine po_allocL hL rfl ?_); clear hL; intro p4 t hL
    refine gor hL ?_; (repeat (clear hL; intro t hL; refine gor hL ?_)); (repeat (refine pseqk ?_; refine gor hL ?_; (repeat (clear hL; intro t hL; refine gor hL ?_))))
    refine pcond_b rfl (fun h5 => ?_) (fun h5 => ?_)
    · refine gor hL ?_; (repeat (clear hL; intro t hL; refine gor hL ?_)); (repeat (refine pseqk ?_; refine gor hL ?_; (repeat (clear hL; intro t hL; refine gor hL ?_))))
      rw [← hQ]
      exact pfin_weak (pret_two (pres_cellL hL rfl (by repeat (first | exact Rem.head | apply Rem.tail)) rfl) rfl) rfl hL.le
    · exfalso
      have : ¬ (l.length : Int) > 4000 := by simpa using h5
      omega
end Go.Pv
