/- Functions of the program, by value. No condition. -/
import Derived.Test.YtmcdhendjlijhaaV25
import Derived.Test.YtmcdhendjlijhaaX10
namespace Go.Pv
open Go.Proofs
set_option maxRecDepth 100000
set_option maxHeartbeats 8000000

theorem len8 {S : List Int} (h : S.length = 8) : ∃ s0 s1 s2 s3 s4 s5 s6 s7, S = [s0, s1, s2, s3, s4, s5, s6, s7] := by
  match S, h with
  | [a, b, c, d, e, f, g, h], _ => exact ⟨a, b, c, d, e, f, g, h, rfl⟩
theorem go_len {p : List Ins} {args : List Int} : ∀ (f i to : Nat) (R : List Int) (b : Bool) (R' : List Int), go p args f i to R = .done b R' → R'.length = R.length := by
  have rp : ∀ {g : List Int → Out}, (∀ R b R', g R = .done b R' → R'.length = R.length) → ∀ (n : Nat) (R : List Int) (b : Bool) (R' : List Int), rep g n R = .done b R' → R'.length = R.length := by
    intro g h n
    induction n with
    | zero => intro R b R' he; cases he; rfl
    | succ n ih =>
      intro R b R' he
      rw [rep] at he
      split at he
      · rename_i R2 h2; exact (ih R2 b R' he).trans (h _ _ _ h2)
      · exact h _ _ _ he
  intro f
  induction f with
  | zero => intro i to R b R' h; cases h
  | succ f ih =>
    intro i to R b R' h
    rw [go] at h
    split at h
    · split at h
      · cases h
      · rename_i x hx
        split at h
        · cases h
        split at h
        · cases h; rfl
        split at h
        · cases h
        split at h
        · cases h
        split at h
        · split at h
          · rename_i R2 h2
            exact (ih _ _ _ _ _ h).trans (rp (fun R b R' => ih _ _ R b R') _ _ _ _ h2)
          · exact rp (fun R b R' => ih _ _ R b R') _ _ _ _ h
        split at h
        · split at h
          · cases h
          · exact ih _ _ _ _ _ h
        · exact (ih _ _ _ _ _ h).trans (List.length_set ..)
    · cases h; rfl

theorem C24 (e r e' r' : Int) (v w : VT) (hv : v.fit) : Pure (PCalls Try.prog GG) 24 [.agg [.d (.int .i64 e), .d (.int .i64 r), .d (.int .i64 v.n), .d (.flt .f64 v.f), .d (.str v.s), .d (.sl (v.of.map VT.row))], .agg [.d (.int .i64 e'), .d (.int .i64 r'), .d (.int .i64 w.n), .d (.flt .f64 w.f), .d (.str w.s), .d (.sl (w.of.map VT.row))]] (b2 (e == e' && r == r' && VT.same v w)) := by
  have h1 := C17 v w hv
  simp only [VT.av_eq] at h1
  intro st; refine pcalls_of k24 e24 (of_decide_eq_true rfl) ?_; dsimp only [c24]; refine pstartL ?_; intro t hL; generalize hQ : pfin _ _ = Q
  (refine gor hL ?_; (repeat (clear hL; intro t hL; refine gor hL ?_))); refine po_boxA hL ?_; clear hL; intro p1 t hL
  (refine gor hL ?_; (repeat (clear hL; intro t hL; refine gor hL ?_))); refine po_boxA hL ?_; clear hL; intro p2 t hL
  refine gor hL ?_; (repeat (clear hL; intro t hL; refine gor hL ?_))
  cases he : e == e' with
  | false =>
    rw [he] at hQ
    refine gor hL ?_; (repeat (clear hL; intro t hL; refine gor hL ?_))
    rw [← hQ]
    exact pfin_pure rfl hL.le
  | true =>
    rw [he] at hQ
    refine gor hL ?_; (repeat (clear hL; intro t hL; refine gor hL ?_))
    cases hr : r == r' with
    | false =>
      rw [hr] at hQ
      refine gor hL ?_; (repeat (clear hL; intro t hL; refine gor hL ?_))
      rw [← hQ]
      exact pfin_pure rfl hL.le
    | true =>
      rw [hr] at hQ
      refine gor hL ?_; (repeat (clear hL; intro t hL; refine gor hL ?_))
      refine po_c0 (h1) ?_
      refine gor hL ?_; (repeat (clear hL; intro t hL; refine gor hL ?_))
      rw [← hQ]
      exact pfin_pure rfl hL.le
end Go.Pv
