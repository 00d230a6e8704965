/- Functions of the program, by value. No condition. -/
import Derived.Test.YtmcdhendjlijhaaV3
import Derived.Test.YtmcdhendjlijhaaE1
namespace Go.Pv
open Go.Proofs
set_option maxRecDepth 100000
set_option maxHeartbeats 8000000

/-- prompter/value.Build -/
abbrev c18_4 : PCode :=
 (.seq (.region [⟨(.some 11), (.load .false 1 (.t 8) .false), .none⟩,
   ⟨(.some 12), (.load .true 4 (.t 2) .false), .none⟩,
   ⟨(.some 13), (.callv0 (.t 11) [(.t 12), (.c (.d (.int .i64 20)))]), .none⟩,
   ⟨.none, (.store 4 (.t 4) (.t 13)), .none⟩])
 .ret)
abbrev c18_3 : PCode :=
 (.seq (.region [⟨(.some 10), (.mkfn 41 [] [(.t 6), (.t 7), (.t 8)]), .none⟩,
   ⟨.none, (.store 1 (.t 8) (.t 10)), .none⟩])
 c18_4)
abbrev c18_2 : PCode :=
 (.keep [2, 4, 6, 7] (.seq (.region [⟨(.some 8), (.alloc [(.d .nilf)]), .none⟩])
 c18_3))
abbrev c18_1 : PCode :=
 (.keep [2, 3, 4, 5, 6] (.seq (.region [⟨(.some 9), (.mkfn 40 [] [(.t 3), (.t 5)]), .none⟩,
   ⟨(.some 7), (.alloc [(.d .nilf)]), .none⟩,
   ⟨.none, (.store 1 (.t 7) (.t 9)), .none⟩])
 c18_2))
abbrev c18_0 : PCode :=
 (.keep [2, 3, 4] (.seq (.region [⟨(.some 5), (.alloc [(.d (.int .i64 0))]), .none⟩,
   ⟨(.some 6), (.alloc [(.d (.int .i64 0))]), .none⟩,
   ⟨.none, (.store 1 (.t 5) (.c (.d (.int .i64 0)))), .none⟩,
   ⟨.none, (.store 1 (.t 6) (.c (.d (.int .i64 0)))), .none⟩])
 c18_1))
def c18 : PFun := ⟨
 (.seq (.region [⟨(.some 2), (.box 4 (.t 0)), .none⟩,
   ⟨(.some 3), (.box 1 (.t 1)), .none⟩,
   ⟨(.some 4), (.alloc [(.d (.int .i64 0)), (.d (.flt .f64 0)), (.d (.str (bs []))), (.full [])]), .none⟩])
 c18_0),
 2, 14, [(.cell 4 .true 4)]⟩

theorem e18 : entered Try.prog 18 = true := by kernel_rfl
theorem k18 : compFun Try.prog (fun _ => 0) 18 = some c18.er := by kernel_rfl


theorem bF_nd {l : List Int} {pm pa pl pn pb m a : Nat} {st t : St} (h : Lay st (bF l pm pa pl pn pb m a) t) : [pm, pa, pl, pn, pb].Nodup := by
  have h1 := h.apart
  simp [bF, Item.blk] at h1
  simp
  omega

theorem C18 (l : List Int) (hl : l.length < 2 ^ 40) (hr : ∀ x ∈ l, -9223372036854775808 ≤ x ∧ x ≤ 9223372036854775807) (x : KT) (hx : x.fit) (hp : posd 20 x) (hc : cost 20 x < 2 ^ 60) :
    Pure (PCalls Try.prog GG) 18 [x.av, .d (i64s l)] (buildV l x).av := by
  rw [KT.av_eq]
  intro st; refine pcalls_of k18 e18 (of_decide_eq_true rfl) ?_; dsimp only [c18]; refine pstartL ?_; intro t hL; generalize hQ : pfin _ _ = Q
  (refine gor hL ?_; (repeat (clear hL; intro t hL; refine gor hL ?_))); refine po_boxA hL ?_; clear hL; intro p2 t hL
  (refine gor hL ?_; (repeat (clear hL; intro t hL; refine gor hL ?_))); refine po_boxA hL ?_; clear hL; intro p3 t hL
  (refine gor hL ?_; (repeat (clear hL; intro t hL; refine gor hL ?_))); (with_reducible refine po_allocL hL rfl ?_); clear hL; intro p4 t hL
  (refine gor hL ?_; (repeat (clear hL; intro t hL; refine gor hL ?_))); (with_reducible refine po_allocL hL rfl ?_); clear hL; intro p5 t hL
  (refine gor hL ?_; (repeat (clear hL; intro t hL; refine gor hL ?_))); (with_reducible refine po_allocL hL rfl ?_); clear hL; intro p6 t hL
  refine gor hL ?_; (repeat (clear hL; intro t hL; refine gor hL ?_))
  (refine gor hL ?_; (repeat (clear hL; intro t hL; refine gor hL ?_))); (with_reducible refine po_allocL hL rfl ?_); clear hL; intro p7 t hL
  refine gor hL ?_; (repeat (clear hL; intro t hL; refine gor hL ?_))
  (refine gor hL ?_; (repeat (clear hL; intro t hL; refine gor hL ?_))); (with_reducible refine po_allocL hL rfl ?_); clear hL; intro p8 t hL
  refine gor hL ?_; (repeat (clear hL; intro t hL; refine gor hL ?_))
  have hnd : [p6, p5, p3, p7, p8].Nodup := bF_nd (l := l) (m := 0) (a := 0) (by simp only [bF, capN, capB]; exact hL.pk)
  have hb := buildC l hl hr 20 x 0 0 (by decide) hx hp (Nat.le_refl _) (by omega) hnd
  rw [KT.av_eq] at hb
  simp only [bF, capN, capB] at hb
  refine po_callvK hL hb ?_
  clear hL; intro _ t hL
  rw [VT.av_eq]
  refine gor hL ?_; (repeat (clear hL; intro t hL; refine gor hL ?_))
  rw [← hQ]
  refine pwk1 hL ?_
  rw [buildV, VT.av_eq]; rfl
end Go.Pv
