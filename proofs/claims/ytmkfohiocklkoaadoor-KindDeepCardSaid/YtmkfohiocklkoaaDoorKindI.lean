/- Functions of the program, by value. No condition. -/
import Derived.Test.YtmkfohiocklkoaaDoorKindH
namespace Go.Pv
open Go.Proofs
set_option maxRecDepth 100000
set_option maxHeartbeats 8000000

/-- (prompter/kind.Table).Whole -/
abbrev c16_1 : PCode :=
 (.seq (.region [⟨(.some 7), (.load .true 6 (.t 2) .false), .none⟩,
   ⟨(.some 8), (.load .true 4 (.t 3) .false), .none⟩,
   ⟨(.some 9), (.call0 33 [(.t 7), (.t 8), (.c (.d (.int .i64 20))), (.t 6)]), .none⟩,
   ⟨(.some 10), (.ext (.t 9) 0), .none⟩,
   ⟨(.some 11), (.ext (.t 9) 1), .none⟩,
   ⟨.none, (.store 4 (.t 4) (.t 10)), .none⟩,
   ⟨(.some 5), (.mov (.t 11)), .none⟩])
 .ret)
abbrev c16_0 : PCode :=
 (.keep [2, 3, 4] (.seq (.region [⟨(.some 6), (.alloc [(.d (.int .i64 0))]), .none⟩,
   ⟨.none, (.store 1 (.t 6) (.c (.d (.int .i64 200)))), .none⟩])
 c16_1))
def c16 : PFun := ⟨
 (.seq (.region [⟨(.some 2), (.box 6 (.t 0)), .none⟩,
   ⟨(.some 3), (.box 4 (.t 1)), .none⟩,
   ⟨(.some 4), (.alloc [(.d (.int .u8 0)), (.d (.int .i64 0)), (.full []), (.full [])]), .none⟩,
   ⟨(.some 5), (.mov (.c (.d (.int .i64 0)))), .none⟩])
 c16_0),
 2, 12, [(.cell 4 .true 4), (.tmp 5)]⟩

theorem e16 : entered Tryd.prog 16 = true := by kernel_rfl
theorem k16 : compFun Tryd.prog (fun _ => 0) 16 = some c16.er := by kernel_rfl


theorem C16 (types : List Al) (x : KT) (a0 a1 a2 a4 a5 : Dat) (hT : fitA types) (hx : x.fit) : Pure (PCalls Tryd.prog GK) 16 [.agg [.d a0, .d a1, .d a2, .d (alRows types), .d a4, .d a5], x.av] (.tup [(wholeM 20 types x 200).1.1.av, i64 (wholeM 20 types x 200).1.2]) := by
  intro st
  obtain ⟨k, m, n, o⟩ := x
  refine pcalls_of k16 e16 (of_decide_eq_true rfl) ?_; dsimp only [c16]
  repeat (first | (with_reducible refine po_movt ?_) | ((with_reducible apply po_pickS); (· first | (simp +decide only [ev, pvc]; done) | (simp +decide only [ev, pvc]; rfl))) | ((with_reducible apply po_idxS); (· rfl); (· rfl); (· assumption)) | (with_reducible refine po_movc ?_) | ((with_reducible apply po_lenM); · rfl) | ((with_reducible apply po); (· rfl); (· rfl)) | ((with_reducible refine po_yt ?_ ?_); · (first | with_reducible rfl | (simp +decide only [pvc]; done))) | ((with_reducible refine po_yf ?_ ?_); · (first | with_reducible rfl | (simp +decide only [pvc]; done))) | ((with_reducible refine po_nt ?_ ?_); · (first | with_reducible rfl | (simp +decide only [pvc]; done))) | ((with_reducible refine po_nf ?_ ?_); · (first | with_reducible rfl | (simp +decide only [pvc]; done))) | ((with_reducible refine po_not' ?_ ?_); · (first | with_reducible rfl | (simp +decide only [pvc]; done))) | ((with_reducible refine pcond_tt ?_ ?_); · (first | with_reducible rfl | (simp +decide only [pvc]; done))) | ((with_reducible refine pcond_ff ?_ ?_); · (first | with_reducible rfl | (simp +decide only [pvc]; done))) | ((with_reducible apply po_g); (· (first | exact wt0 rfl | exact wf0 rfl | exact wt1 rfl | exact wf1 rfl)); (· (intro hw; (try simp only [pvw] at hw); first | ((with_reducible apply does_lenM); (· first | rfl | (simp +decide only [pvc, hw]; done) | (simp +decide only [pvc, hw]; rfl))) | ((with_reducible apply does_loadE); (· first | rfl | (simp +decide only [pvc, hw]; done) | (simp +decide only [pvc, hw]; rfl)); (· rfl)) | ((with_reducible apply does_load); (· first | rfl | (simp +decide only [pvc, hw]; done) | (simp +decide only [pvc, hw]; rfl)); (· (repeat (refine (if_neg ?_).trans ?_; (first | assumption | (apply Ne.symm; assumption)))); first | exact if_pos rfl | assumption); (· rfl)) | ((apply does_N rfl); (first | (simp +decide only [ev, pvc, hw]; done) | (simp +decide only [ev, pvc, hw]; rfl) | rfl))))) | ((with_reducible apply po_loadE); (· rfl); (· rfl)) | ((with_reducible apply po_load); (· rfl); (· (repeat (refine (if_neg ?_).trans ?_; (first | assumption | (apply Ne.symm; assumption)))); first | exact if_pos rfl | assumption); (· rfl)) | ((with_reducible apply po_store); (· rfl); (· rfl); (· (repeat (refine (if_neg ?_).trans ?_; (first | assumption | (apply Ne.symm; assumption)))); first | exact if_pos rfl | assumption); (· exact ⟨rfl, rfl⟩); (· exact of_decide_eq_true rfl); (· rfl); (· exact fun _ _ h => False.elim h)) | (with_reducible refine pnil ?_) | ((with_reducible refine pnext ?_); try simp +decide only [pvc]) | (with_reducible refine pseqr ?_) | (with_reducible first | refine pseqe ?_ | refine pseqe2 ?_ | refine pseqe3 ?_ | refine pseqe4 ?_) | ((fail_if_success (with_reducible refine pseqk ?_)); (with_reducible refine pseq ?_)) | ((with_reducible refine pkeep ?_); (try simp +decide only [pvl, pvt])) | (with_reducible refine pregion ?_) | (with_reducible refine pskip ?_) | (with_reducible refine pret_ ?_) | (with_reducible refine pnext_ret ?_) | (with_reducible refine pexit_ ?_) | (with_reducible refine pnext_exit ?_) | (with_reducible refine pblock_ret ?_) | (with_reducible refine pblock_normal ?_) | (with_reducible refine pexit_in ?_) | (with_reducible refine pexit_out rfl ?_))
  refine po_box (cells := [.d a0, .d a1, .d a2, .d (alRows types), .d a4, .d a5]) rfl rfl fun b1 hb1 => ?_
  repeat (first | (with_reducible refine po_movt ?_) | ((with_reducible apply po_pickS); (· first | (simp +decide only [ev, pvc]; done) | (simp +decide only [ev, pvc]; rfl))) | ((with_reducible apply po_idxS); (· rfl); (· rfl); (· assumption)) | (with_reducible refine po_movc ?_) | ((with_reducible apply po_lenM); · rfl) | ((with_reducible apply po); (· rfl); (· rfl)) | ((with_reducible refine po_yt ?_ ?_); · (first | with_reducible rfl | (simp +decide only [pvc]; done))) | ((with_reducible refine po_yf ?_ ?_); · (first | with_reducible rfl | (simp +decide only [pvc]; done))) | ((with_reducible refine po_nt ?_ ?_); · (first | with_reducible rfl | (simp +decide only [pvc]; done))) | ((with_reducible refine po_nf ?_ ?_); · (first | with_reducible rfl | (simp +decide only [pvc]; done))) | ((with_reducible refine po_not' ?_ ?_); · (first | with_reducible rfl | (simp +decide only [pvc]; done))) | ((with_reducible refine pcond_tt ?_ ?_); · (first | with_reducible rfl | (simp +decide only [pvc]; done))) | ((with_reducible refine pcond_ff ?_ ?_); · (first | with_reducible rfl | (simp +decide only [pvc]; done))) | ((with_reducible apply po_g); (· (first | exact wt0 rfl | exact wf0 rfl | exact wt1 rfl | exact wf1 rfl)); (· (intro hw; (try simp only [pvw] at hw); first | ((with_reducible apply does_lenM); (· first | rfl | (simp +decide only [pvc, hw]; done) | (simp +decide only [pvc, hw]; rfl))) | ((with_reducible apply does_loadE); (· first | rfl | (simp +decide only [pvc, hw]; done) | (simp +decide only [pvc, hw]; rfl)); (· rfl)) | ((with_reducible apply does_load); (· first | rfl | (simp +decide only [pvc, hw]; done) | (simp +decide only [pvc, hw]; rfl)); (· (repeat (refine (if_neg ?_).trans ?_; (first | assumption | (apply Ne.symm; assumption)))); first | exact if_pos rfl | assumption); (· rfl)) | ((apply does_N rfl); (first | (simp +decide only [ev, pvc, hw]; done) | (simp +decide only [ev, pvc, hw]; rfl) | rfl))))) | ((with_reducible apply po_loadE); (· rfl); (· rfl)) | ((with_reducible apply po_load); (· rfl); (· (repeat (refine (if_neg ?_).trans ?_; (first | assumption | (apply Ne.symm; assumption)))); first | exact if_pos rfl | assumption); (· rfl)) | ((with_reducible apply po_store); (· rfl); (· rfl); (· (repeat (refine (if_neg ?_).trans ?_; (first | assumption | (apply Ne.symm; assumption)))); first | exact if_pos rfl | assumption); (· exact ⟨rfl, rfl⟩); (· exact of_decide_eq_true rfl); (· rfl); (· exact fun _ _ h => False.elim h)) | (with_reducible refine pnil ?_) | ((with_reducible refine pnext ?_); try simp +decide only [pvc]) | (with_reducible refine pseqr ?_) | (with_reducible first | refine pseqe ?_ | refine pseqe2 ?_ | refine pseqe3 ?_ | refine pseqe4 ?_) | ((fail_if_success (with_reducible refine pseqk ?_)); (with_reducible refine pseq ?_)) | ((with_reducible refine pkeep ?_); (try simp +decide only [pvl, pvt])) | (with_reducible refine pregion ?_) | (with_reducible refine pskip ?_) | (with_reducible refine pret_ ?_) | (with_reducible refine pnext_ret ?_) | (with_reducible refine pexit_ ?_) | (with_reducible refine pnext_exit ?_) | (with_reducible refine pblock_ret ?_) | (with_reducible refine pblock_normal ?_) | (with_reducible refine pexit_in ?_) | (with_reducible refine pexit_out rfl ?_))
  refine po_box (cells := [.d (.int .u8 k), .d (.int .i64 m), .d (strs n), .d (.sl (KT.rows o))]) rfl rfl fun b2 hb2 => ?_
  have n12 : b1 ≠ b2 := fresh_ne hb2
  have f1 := hb1.1
  have f2 := (fresh_under hb2).1
  clear hb2 hb1
  repeat (first | (with_reducible refine po_movt ?_) | ((with_reducible apply po_pickS); (· first | (simp +decide only [ev, pvc]; done) | (simp +decide only [ev, pvc]; rfl))) | ((with_reducible apply po_idxS); (· rfl); (· rfl); (· assumption)) | (with_reducible refine po_movc ?_) | ((with_reducible apply po_lenM); · rfl) | ((with_reducible apply po); (· rfl); (· rfl)) | ((with_reducible refine po_yt ?_ ?_); · (first | with_reducible rfl | (simp +decide only [pvc]; done))) | ((with_reducible refine po_yf ?_ ?_); · (first | with_reducible rfl | (simp +decide only [pvc]; done))) | ((with_reducible refine po_nt ?_ ?_); · (first | with_reducible rfl | (simp +decide only [pvc]; done))) | ((with_reducible refine po_nf ?_ ?_); · (first | with_reducible rfl | (simp +decide only [pvc]; done))) | ((with_reducible refine po_not' ?_ ?_); · (first | with_reducible rfl | (simp +decide only [pvc]; done))) | ((with_reducible refine pcond_tt ?_ ?_); · (first | with_reducible rfl | (simp +decide only [pvc]; done))) | ((with_reducible refine pcond_ff ?_ ?_); · (first | with_reducible rfl | (simp +decide only [pvc]; done))) | ((with_reducible apply po_g); (· (first | exact wt0 rfl | exact wf0 rfl | exact wt1 rfl | exact wf1 rfl)); (· (intro hw; (try simp only [pvw] at hw); first | ((with_reducible apply does_lenM); (· first | rfl | (simp +decide only [pvc, hw]; done) | (simp +decide only [pvc, hw]; rfl))) | ((with_reducible apply does_loadE); (· first | rfl | (simp +decide only [pvc, hw]; done) | (simp +decide only [pvc, hw]; rfl)); (· rfl)) | ((with_reducible apply does_load); (· first | rfl | (simp +decide only [pvc, hw]; done) | (simp +decide only [pvc, hw]; rfl)); (· (repeat (refine (if_neg ?_).trans ?_; (first | assumption | (apply Ne.symm; assumption)))); first | exact if_pos rfl | assumption); (· rfl)) | ((apply does_N rfl); (first | (simp +decide only [ev, pvc, hw]; done) | (simp +decide only [ev, pvc, hw]; rfl) | rfl))))) | ((with_reducible apply po_loadE); (· rfl); (· rfl)) | ((with_reducible apply po_load); (· rfl); (· (repeat (refine (if_neg ?_).trans ?_; (first | assumption | (apply Ne.symm; assumption)))); first | exact if_pos rfl | assumption); (· rfl)) | ((with_reducible apply po_store); (· rfl); (· rfl); (· (repeat (refine (if_neg ?_).trans ?_; (first | assumption | (apply Ne.symm; assumption)))); first | exact if_pos rfl | assumption); (· exact ⟨rfl, rfl⟩); (· exact of_decide_eq_true rfl); (· rfl); (· exact fun _ _ h => False.elim h)) | (with_reducible refine pnil ?_) | ((with_reducible refine pnext ?_); try simp +decide only [pvc]) | (with_reducible refine pseqr ?_) | (with_reducible first | refine pseqe ?_ | refine pseqe2 ?_ | refine pseqe3 ?_ | refine pseqe4 ?_) | ((fail_if_success (with_reducible refine pseqk ?_)); (with_reducible refine pseq ?_)) | ((with_reducible refine pkeep ?_); (try simp +decide only [pvl, pvt])) | (with_reducible refine pregion ?_) | (with_reducible refine pskip ?_) | (with_reducible refine pret_ ?_) | (with_reducible refine pnext_ret ?_) | (with_reducible refine pexit_ ?_) | (with_reducible refine pnext_exit ?_) | (with_reducible refine pblock_ret ?_) | (with_reducible refine pblock_normal ?_) | (with_reducible refine pexit_in ?_) | (with_reducible refine pexit_out rfl ?_))
  refine po_alloc fun b3 hb3 => ?_
  have n23 : b2 ≠ b3 := fresh_ne hb3
  have n13 : b1 ≠ b3 := fresh_ne (fresh_under hb3)
  have f3 := (fresh_under (fresh_under hb3)).1
  clear hb3
  repeat (first | (with_reducible refine po_movt ?_) | ((with_reducible apply po_pickS); (· first | (simp +decide only [ev, pvc]; done) | (simp +decide only [ev, pvc]; rfl))) | ((with_reducible apply po_idxS); (· rfl); (· rfl); (· assumption)) | (with_reducible refine po_movc ?_) | ((with_reducible apply po_lenM); · rfl) | ((with_reducible apply po); (· rfl); (· rfl)) | ((with_reducible refine po_yt ?_ ?_); · (first | with_reducible rfl | (simp +decide only [pvc]; done))) | ((with_reducible refine po_yf ?_ ?_); · (first | with_reducible rfl | (simp +decide only [pvc]; done))) | ((with_reducible refine po_nt ?_ ?_); · (first | with_reducible rfl | (simp +decide only [pvc]; done))) | ((with_reducible refine po_nf ?_ ?_); · (first | with_reducible rfl | (simp +decide only [pvc]; done))) | ((with_reducible refine po_not' ?_ ?_); · (first | with_reducible rfl | (simp +decide only [pvc]; done))) | ((with_reducible refine pcond_tt ?_ ?_); · (first | with_reducible rfl | (simp +decide only [pvc]; done))) | ((with_reducible refine pcond_ff ?_ ?_); · (first | with_reducible rfl | (simp +decide only [pvc]; done))) | ((with_reducible apply po_g); (· (first | exact wt0 rfl | exact wf0 rfl | exact wt1 rfl | exact wf1 rfl)); (· (intro hw; (try simp only [pvw] at hw); first | ((with_reducible apply does_lenM); (· first | rfl | (simp +decide only [pvc, hw]; done) | (simp +decide only [pvc, hw]; rfl))) | ((with_reducible apply does_loadE); (· first | rfl | (simp +decide only [pvc, hw]; done) | (simp +decide only [pvc, hw]; rfl)); (· rfl)) | ((with_reducible apply does_load); (· first | rfl | (simp +decide only [pvc, hw]; done) | (simp +decide only [pvc, hw]; rfl)); (· (repeat (refine (if_neg ?_).trans ?_; (first | assumption | (apply Ne.symm; assumption)))); first | exact if_pos rfl | assumption); (· rfl)) | ((apply does_N rfl); (first | (simp +decide only [ev, pvc, hw]; done) | (simp +decide only [ev, pvc, hw]; rfl) | rfl))))) | ((with_reducible apply po_loadE); (· rfl); (· rfl)) | ((with_reducible apply po_load); (· rfl); (· (repeat (refine (if_neg ?_).trans ?_; (first | assumption | (apply Ne.symm; assumption)))); first | exact if_pos rfl | assumption); (· rfl)) | ((with_reducible apply po_store); (· rfl); (· rfl); (· (repeat (refine (if_neg ?_).trans ?_; (first | assumption | (apply Ne.symm; assumption)))); first | exact if_pos rfl | assumption); (· exact ⟨rfl, rfl⟩); (· exact of_decide_eq_true rfl); (· rfl); (· exact fun _ _ h => False.elim h)) | (with_reducible refine pnil ?_) | ((with_reducible refine pnext ?_); try simp +decide only [pvc]) | (with_reducible refine pseqr ?_) | (with_reducible first | refine pseqe ?_ | refine pseqe2 ?_ | refine pseqe3 ?_ | refine pseqe4 ?_) | ((fail_if_success (with_reducible refine pseqk ?_)); (with_reducible refine pseq ?_)) | ((with_reducible refine pkeep ?_); (try simp +decide only [pvl, pvt])) | (with_reducible refine pregion ?_) | (with_reducible refine pskip ?_) | (with_reducible refine pret_ ?_) | (with_reducible refine pnext_ret ?_) | (with_reducible refine pexit_ ?_) | (with_reducible refine pnext_exit ?_) | (with_reducible refine pblock_ret ?_) | (with_reducible refine pblock_normal ?_) | (with_reducible refine pexit_in ?_) | (with_reducible refine pexit_out rfl ?_))
  refine po_alloc fun b4 hb4 => ?_
  have n34 : b3 ≠ b4 := fresh_ne hb4
  have n24 : b2 ≠ b4 := fresh_ne (fresh_under hb4)
  have n14 : b1 ≠ b4 := fresh_ne (fresh_under (fresh_under hb4))
  have f4 := (fresh_under (fresh_under (fresh_under hb4))).1
  clear hb4
  repeat (first | (with_reducible refine po_movt ?_) | ((with_reducible apply po_pickS); (· first | (simp +decide only [ev, pvc]; done) | (simp +decide only [ev, pvc]; rfl))) | ((with_reducible apply po_idxS); (· rfl); (· rfl); (· assumption)) | (with_reducible refine po_movc ?_) | ((with_reducible apply po_lenM); · rfl) | ((with_reducible apply po); (· rfl); (· rfl)) | ((with_reducible refine po_yt ?_ ?_); · (first | with_reducible rfl | (simp +decide only [pvc]; done))) | ((with_reducible refine po_yf ?_ ?_); · (first | with_reducible rfl | (simp +decide only [pvc]; done))) | ((with_reducible refine po_nt ?_ ?_); · (first | with_reducible rfl | (simp +decide only [pvc]; done))) | ((with_reducible refine po_nf ?_ ?_); · (first | with_reducible rfl | (simp +decide only [pvc]; done))) | ((with_reducible refine po_not' ?_ ?_); · (first | with_reducible rfl | (simp +decide only [pvc]; done))) | ((with_reducible refine pcond_tt ?_ ?_); · (first | with_reducible rfl | (simp +decide only [pvc]; done))) | ((with_reducible refine pcond_ff ?_ ?_); · (first | with_reducible rfl | (simp +decide only [pvc]; done))) | ((with_reducible apply po_g); (· (first | exact wt0 rfl | exact wf0 rfl | exact wt1 rfl | exact wf1 rfl)); (· (intro hw; (try simp only [pvw] at hw); first | ((with_reducible apply does_lenM); (· first | rfl | (simp +decide only [pvc, hw]; done) | (simp +decide only [pvc, hw]; rfl))) | ((with_reducible apply does_loadE); (· first | rfl | (simp +decide only [pvc, hw]; done) | (simp +decide only [pvc, hw]; rfl)); (· rfl)) | ((with_reducible apply does_load); (· first | rfl | (simp +decide only [pvc, hw]; done) | (simp +decide only [pvc, hw]; rfl)); (· (repeat (refine (if_neg ?_).trans ?_; (first | assumption | (apply Ne.symm; assumption)))); first | exact if_pos rfl | assumption); (· rfl)) | ((apply does_N rfl); (first | (simp +decide only [ev, pvc, hw]; done) | (simp +decide only [ev, pvc, hw]; rfl) | rfl))))) | ((with_reducible apply po_loadE); (· rfl); (· rfl)) | ((with_reducible apply po_load); (· rfl); (· (repeat (refine (if_neg ?_).trans ?_; (first | assumption | (apply Ne.symm; assumption)))); first | exact if_pos rfl | assumption); (· rfl)) | ((with_reducible apply po_store); (· rfl); (· rfl); (· (repeat (refine (if_neg ?_).trans ?_; (first | assumption | (apply Ne.symm; assumption)))); first | exact if_pos rfl | assumption); (· exact ⟨rfl, rfl⟩); (· exact of_decide_eq_true rfl); (· rfl); (· exact fun _ _ h => False.elim h)) | (with_reducible refine pnil ?_) | ((with_reducible refine pnext ?_); try simp +decide only [pvc]) | (with_reducible refine pseqr ?_) | (with_reducible first | refine pseqe ?_ | refine pseqe2 ?_ | refine pseqe3 ?_ | refine pseqe4 ?_) | ((fail_if_success (with_reducible refine pseqk ?_)); (with_reducible refine pseq ?_)) | ((with_reducible refine pkeep ?_); (try simp +decide only [pvl, pvt])) | (with_reducible refine pregion ?_) | (with_reducible refine pskip ?_) | (with_reducible refine pret_ ?_) | (with_reducible refine pnext_ret ?_) | (with_reducible refine pexit_ ?_) | (with_reducible refine pnext_exit ?_) | (with_reducible refine pblock_ret ?_) | (with_reducible refine pblock_normal ?_) | (with_reducible refine pexit_in ?_) | (with_reducible refine pexit_out rfl ?_))
  refine po_callS rfl (C33 20 types (.mk k m n o) 200 a0 a1 a2 a4 a5 b4 _ (by decide) hT hx (by decide) (if_pos rfl)) (fun L hL => ⟨_, _, ⟨rfl, rfl⟩, fun b hb => fresh_store (if_pos rfl) (hL b hb)⟩) ?_
  rintro r st' ⟨rfl, rfl⟩
  generalize wholeM 20 types (KT.mk k m n o) 200 = W
  obtain ⟨⟨⟨k2, m2, n2, o2⟩, e⟩, l'⟩ := W
  repeat (first | (with_reducible refine po_movt ?_) | ((with_reducible apply po_pickS); (· first | (simp +decide only [ev, pvc]; done) | (simp +decide only [ev, pvc]; rfl))) | ((with_reducible apply po_idxS); (· rfl); (· rfl); (· assumption)) | (with_reducible refine po_movc ?_) | ((with_reducible apply po_lenM); · rfl) | ((with_reducible apply po); (· rfl); (· rfl)) | ((with_reducible refine po_yt ?_ ?_); · (first | with_reducible rfl | (simp +decide only [pvc]; done))) | ((with_reducible refine po_yf ?_ ?_); · (first | with_reducible rfl | (simp +decide only [pvc]; done))) | ((with_reducible refine po_nt ?_ ?_); · (first | with_reducible rfl | (simp +decide only [pvc]; done))) | ((with_reducible refine po_nf ?_ ?_); · (first | with_reducible rfl | (simp +decide only [pvc]; done))) | ((with_reducible refine po_not' ?_ ?_); · (first | with_reducible rfl | (simp +decide only [pvc]; done))) | ((with_reducible refine pcond_tt ?_ ?_); · (first | with_reducible rfl | (simp +decide only [pvc]; done))) | ((with_reducible refine pcond_ff ?_ ?_); · (first | with_reducible rfl | (simp +decide only [pvc]; done))) | ((with_reducible apply po_g); (· (first | exact wt0 rfl | exact wf0 rfl | exact wt1 rfl | exact wf1 rfl)); (· (intro hw; (try simp only [pvw] at hw); first | ((with_reducible apply does_lenM); (· first | rfl | (simp +decide only [pvc, hw]; done) | (simp +decide only [pvc, hw]; rfl))) | ((with_reducible apply does_loadE); (· first | rfl | (simp +decide only [pvc, hw]; done) | (simp +decide only [pvc, hw]; rfl)); (· rfl)) | ((with_reducible apply does_load); (· first | rfl | (simp +decide only [pvc, hw]; done) | (simp +decide only [pvc, hw]; rfl)); (· (repeat (refine (if_neg ?_).trans ?_; (first | assumption | (apply Ne.symm; assumption)))); first | exact if_pos rfl | assumption); (· rfl)) | ((apply does_N rfl); (first | (simp +decide only [ev, pvc, hw]; done) | (simp +decide only [ev, pvc, hw]; rfl) | rfl))))) | ((with_reducible apply po_loadE); (· rfl); (· rfl)) | ((with_reducible apply po_load); (· rfl); (· (repeat (refine (if_neg ?_).trans ?_; (first | assumption | (apply Ne.symm; assumption)))); first | exact if_pos rfl | assumption); (· rfl)) | ((with_reducible apply po_store); (· rfl); (· rfl); (· (repeat (refine (if_neg ?_).trans ?_; (first | assumption | (apply Ne.symm; assumption)))); first | exact if_pos rfl | assumption); (· exact ⟨rfl, rfl⟩); (· exact of_decide_eq_true rfl); (· rfl); (· exact fun _ _ h => False.elim h)) | (with_reducible refine pnil ?_) | ((with_reducible refine pnext ?_); try simp +decide only [pvc]) | (with_reducible refine pseqr ?_) | (with_reducible first | refine pseqe ?_ | refine pseqe2 ?_ | refine pseqe3 ?_ | refine pseqe4 ?_) | ((fail_if_success (with_reducible refine pseqk ?_)); (with_reducible refine pseq ?_)) | ((with_reducible refine pkeep ?_); (try simp +decide only [pvl, pvt])) | (with_reducible refine pregion ?_) | (with_reducible refine pskip ?_) | (with_reducible refine pret_ ?_) | (with_reducible refine pnext_ret ?_) | (with_reducible refine pexit_ ?_) | (with_reducible refine pnext_exit ?_) | (with_reducible refine pblock_ret ?_) | (with_reducible refine pblock_normal ?_) | (with_reducible refine pexit_in ?_) | (with_reducible refine pexit_out rfl ?_))
  refine pfin_pure (pret_two (pres_cell rfl (if_pos rfl) rfl) rfl) ?_
  exact ((((((St.le.refl _).setBox _ f1).setBox _ f2).setBox _ f3).setBox _ f4).setBox _ f3)

/-- Sequences in one another. -/
def chainT (m : Int) : Nat → KT
  | 0 => KT.zero
  | j + 1 => .mk 5 m [] [chainT m j]
theorem fitS_nil : fitS [] := ⟨by decide, fun s h => by cases h⟩
theorem chain_fit (m : Int) : ∀ j, (chainT m j).fit
  | 0 => ⟨fitS_nil, by decide, trivial⟩
  | j + 1 => ⟨fitS_nil, (show 1 < 2 ^ 40 by decide), chain_fit m j, trivial⟩
theorem chain_check {m : Int} (hm : 1 ≤ m ∧ m ≤ 60) (known : List ByteArray) : ∀ (j : Nat) (d : Int), (chainT m j).check d known = if d ≤ j then 5 else 0
  | 0, d => by
    simp only [chainT, KT.zero, KT.check, formE, nameE, manyOf, KT.checks, List.length_nil]
    by_cases h : d < 1
    · simp [h]; omega
    · simp [h]; omega
  | j + 1, d => by
    have ih := chain_check hm known j (d - 1)
    simp only [chainT, KT.check, formE, nameE, manyOf, KT.checks, List.length_nil, List.length_cons, ih]
    by_cases h : d < 1
    · simp [h]; omega
    · by_cases h2 : d - 1 ≤ j
      · simp [h, h2]; omega
      · simp [h, h2]; omega
theorem chain_whole (m : Int) (types : List Al) : ∀ (j d : Nat) (left : Int), j < d → j < left → wholeM d types (chainT m j) left = ((chainT m j, 0), left - (j + 1))
  | 0, d + 1, left, _, hl => by
    rw [chainT, KT.zero, wholeM_rec (outs := []) (e := 0) (l := left - 1) (by decide) (by omega) rfl]
    simp
  | j + 1, d + 1, left, hd, hl => by
    have ih := chain_whole m types j d (left - 1) (by omega) (by omega)
    rw [chainT, wholeM_rec (outs := [chainT m j]) (e := 0) (l := left - 1 - (j + 1)) (by decide) (by omega) (by simp [foldW, ih])]
    simp
    omega
theorem seqB_refl (x : ByteArray) : seqB x x = true := seqB_iff.2 rfl
theorem eqAll_refl {α : Type} {e : α → α → Bool} : ∀ {l : List α}, (∀ x ∈ l, e x x = true) → eqAll e l l = true
  | [], _ => rfl
  | x :: xs, h => by simp only [eqAll, h x List.mem_cons_self, Bool.true_and]; exact eqAll_refl fun y hy => h y (List.mem_cons_of_mem _ hy)
theorem same_refl (t : KT) : t.same t = true := by
  induction t using KT.ind with
  | h k m n o ih =>
  simp only [KT.same, KT.sames_all, beq_self_eq_true, Bool.true_and, Bool.and_eq_true]
  exact ⟨eqAll_refl fun x _ => seqB_refl x, eqAll_refl ih⟩

theorem foldW_one {f : KT → Int → (KT × Int) × Int} {x y : KT} {left l : Int} (h : f x left = ((y, 0), l)) : foldW f [x] left = (([y], 0), l) := by simp [foldW, h]
def nA : ByteArray := bs [97]
def nB : ByteArray := bs [98]
def nC : ByteArray := bs [99]
theorem names3 : isName nA = true ∧ isName nB = true ∧ isName nC = true ∧ seqB nB nC = false ∧ seqB nC nB = false := by decide +kernel
def refB : KT := .mk 9 0 [nB] []
def seqC : KT := .mk 5 2 [] [refB]
def types2 (t : KT) : List Al := [⟨nB, t⟩, ⟨nC, seqC⟩]
theorem check1 {m : Int} (hm : 1 ≤ m ∧ m ≤ 60) (n : Nat) : tableE nA 0 0 [⟨nB, chainT m n⟩] = if 5 ≤ n then 5 else 0 := by
  obtain ⟨h1, h2, h3, h4, h5⟩ := names3
  simp only [tableE, h1, typesE, freshE, h2, chain_check hm]
  by_cases h : 5 ≤ n
  · have : (5 : Int) ≤ n := by omega
    simp [inNum, smem, h, this]
  · have : ¬ (5 : Int) ≤ n := by omega
    simp [inNum, smem, h, this]
theorem check2 {m : Int} (hm : 1 ≤ m ∧ m ≤ 60) (n : Nat) (hn : n < 5) : tableE nA 0 0 (types2 (chainT m n)) = 0 := by
  obtain ⟨h1, h2, h3, h4, h5⟩ := names3
  have : ¬ (5 : Int) ≤ n := by omega
  simp [tableE, types2, h1, typesE, freshE, h2, h3, chain_check hm, inNum, smem, this, h5, seqC, refB, KT.check, KT.checks, formE, nameE, manyOf, seqB_refl]
theorem whole2 (m : Int) (n : Nat) (hn : n < 5) : (wholeM 20 (types2 (chainT m n)) (.mk 9 0 [nC] []) 200).1 = (.mk 5 2 [] [chainT m n], 0) := by
  obtain ⟨h1, h2, h3, h4, h5⟩ := names3
  have r1 : refAt (types2 (chainT m n)) [nC] = 1 := by
    simp [refAt, types2, List.findIdx_cons, h4, seqB_refl]
  have r2 : refAt [⟨nB, chainT m n⟩] [nB] = 0 := by
    simp [refAt, List.findIdx_cons, seqB_refl]
  have e1 := wholeM_ref (d := 19) (m := 0) (o := []) (left := 200) (n := [nC]) (types := types2 (chainT m n)) (i := 1) (by simp [types2]) r1
  rw [e1]
  have e2 := wholeM_ref (d := 17) (m := 0) (o := []) (left := 199) (n := [nB]) (types := [⟨nB, chainT m n⟩]) (i := 0) (by simp) r2
  have e3 := chain_whole m [] n 17 199 (by omega) (by omega)
  simp only [types2, List.take_succ_cons, List.take_zero, List.getElem_cons_succ, List.getElem_cons_zero, seqC]
  rw [wholeM_rec (outs := [chainT m n]) (e := 0) (l := 199 - (n + 1)) (by decide) (by decide) (foldW_one (e2.trans e3))]
  simp
end Go.Pv
