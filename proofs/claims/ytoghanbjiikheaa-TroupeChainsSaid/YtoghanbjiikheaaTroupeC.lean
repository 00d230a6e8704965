/- Functions of the program, by value. No condition. -/
import Derived.Test.YtoghanbjiikheaaTroupeB
namespace Go.Pv
open Go.Proofs
set_option maxRecDepth 100000

/-- slices.IndexFunc[[]int,int] -/
def c29 : PFun := ⟨
 (.seq (.region [⟨(.some 4), (.mov (.c (.d (.int .i64 0)))), .none⟩])
 (.seq (.seq (.region [⟨(.some 6), (.mov (.t 0)), .none⟩,
   ⟨(.some 7), (.len (.t 6)), .none⟩,
   ⟨(.some 8), (.mov (.c (.d (.int .i64 0)))), .none⟩])
 (.block 0 (.loop (.some [0, 1, 7, 8]) (.seq (.region [⟨(.some 9), (.bin .lss (.t 8) (.t 7)), .none⟩])
 (.seq (.cond (.t 9)
  .skip
  (.exit 0))
 (.seq (.block 1 (.seq (.region [⟨(.some 10), (.mov (.t 8)), .none⟩,
   ⟨(.some 5), (.mov (.t 10)), .none⟩])
 (.seq (.region [⟨(.some 11), (.mov (.t 1)), .none⟩,
   ⟨(.some 12), (.mov (.t 0)), .none⟩,
   ⟨(.some 13), (.mov (.t 5)), .none⟩,
   ⟨(.some 14), (.iaddr 1 (.t 12) (.t 13)), .none⟩,
   ⟨(.some 15), (.load .false 1 (.t 14) .false), .none⟩,
   ⟨(.some 16), (.callv (.t 11) [(.t 15)]), .none⟩])
 (.cond (.t 16)
  (.seq (.region [⟨(.some 17), (.mov (.t 5)), .none⟩,
    ⟨(.some 4), (.mov (.t 17)), .none⟩])
  .ret)
  .skip))))
 (.region [⟨(.some 18), (.bin .add (.t 8) (.c (.d (.int .i64 1)))), .none⟩,
   ⟨(.some 8), (.mov (.t 18)), .none⟩])))))))
 (.seq (.region [⟨(.some 4), (.mov (.c (.d (.int .i64 (-1))))), .none⟩])
 .ret))),
 2, 19, [(.tmp 4)]⟩
/-- slices.ContainsFunc[[]int,int] -/
def c22 : PFun := ⟨
 (.seq (.region [⟨(.some 4), (.mov (.c (.d (.bool .false)))), .none⟩])
 (.seq (.region [⟨(.some 5), (.mov (.t 0)), .none⟩,
   ⟨(.some 6), (.mov (.t 1)), .none⟩,
   ⟨(.some 7), (.call 29 [(.t 5), (.t 6)]), .none⟩,
   ⟨(.some 8), (.bin .geq (.t 7) (.c (.d (.int .i64 0)))), .none⟩,
   ⟨(.some 4), (.mov (.t 8)), .none⟩])
 .ret)),
 2, 9, [(.tmp 4)]⟩
/-- (prompter/troupe.View).All$1 -/
def c23 : PFun := ⟨
 (.seq (.region [⟨(.some 3), (.mov (.c (.d (.bool .false)))), .none⟩])
 (.seq (.region [⟨(.some 4), (.load .false 1 (.t 1) .false), .none⟩,
   ⟨(.some 5), (.mov (.t 0)), .none⟩,
   ⟨(.some 6), (.call 20 [(.t 4), (.t 5)]), .none⟩,
   ⟨(.some 7), (.not (.t 6)), .none⟩,
   ⟨(.some 3), (.mov (.t 7)), .none⟩])
 .ret)),
 2, 8, [(.tmp 3)]⟩
/-- (prompter/troupe.View).All -/
def c15 : PFun := ⟨
 (.seq (.region [⟨(.some 2), (.box 2 (.t 0)), .none⟩,
   ⟨(.some 3), (.box 1 (.t 1)), .none⟩,
   ⟨(.some 4), (.mov (.c (.d (.bool .false)))), .none⟩])
 (.seq (.region [⟨(.some 5), (.faddr 1 (.t 2)), .none⟩,
   ⟨(.some 6), (.load .false 1 (.t 5) .false), .none⟩,
   ⟨(.some 7), (.mkfn 23 [] [(.t 3)]), .none⟩,
   ⟨(.some 8), (.call 22 [(.t 6), (.t 7)]), .none⟩,
   ⟨(.some 9), (.not (.t 8)), .none⟩,
   ⟨(.some 4), (.mov (.t 9)), .none⟩])
 .ret)),
 2, 10, [(.tmp 4)]⟩
theorem e29 : entered Try.prog 29 = true := by kernel_rfl
theorem k29 : compFun Try.prog (fun _ => 0) 29 = some c29.er := by kernel_rfl
theorem e22 : entered Try.prog 22 = true := by kernel_rfl
theorem k22 : compFun Try.prog (fun _ => 0) 22 = some c22.er := by kernel_rfl
theorem e23 : entered Try.prog 23 = true := by kernel_rfl
theorem k23 : compFun Try.prog (fun _ => 0) 23 = some c23.er := by kernel_rfl
theorem e15 : entered Try.prog 15 = true := by kernel_rfl
theorem k15 : compFun Try.prog (fun _ => 0) 15 = some c15.er := by kernel_rfl


def idxF (pr : Int → Bool) (l : List Int) : Int := if l.any pr = true then (l.findIdx pr : Int) else -1
/-- IndexFunc, of a function that is pure in this state. -/
theorem C29 {st : St} {g : FuncId} {first caps : List Dat} {pr : Int → Bool} (hg : ∀ x : Int, PureAt (PCalls Try.prog GG) st g (first.map .d ++ [.d (.int .i64 x)] ++ caps.map .d) (b2 (pr x))) (l : List Int) (hl : l.length < 2 ^ 62) :
    PureAt (PCalls Try.prog GG) st 29 [.d (ints l), .d (.fn g first caps)] (i64 (idxF pr l)) := by
  refine pcalls_of k29 e29 (of_decide_eq_true rfl) ?_
  dsimp only [c29]
  repeat (first | (with_reducible refine po_movt ?_) | (with_reducible refine po_movc ?_) | ((with_reducible apply po_lenI); · rfl) | ((with_reducible apply po); (· rfl); (· rfl)) | ((with_reducible refine po_yt ?_ ?_); · (first | with_reducible rfl | (simp +decide only [pvl]; done))) | ((with_reducible refine po_yf ?_ ?_); · (first | with_reducible rfl | (simp +decide only [pvl]; done))) | ((with_reducible refine po_nt ?_ ?_); · (first | with_reducible rfl | (simp +decide only [pvl]; done))) | ((with_reducible refine po_nf ?_ ?_); · (first | with_reducible rfl | (simp +decide only [pvl]; done))) | ((with_reducible refine po_not' ?_ ?_); · (first | with_reducible rfl | (simp +decide only [pvl]; done))) | ((with_reducible refine pcond_tt ?_ ?_); · (first | with_reducible rfl | (simp +decide only [pvl]; done))) | ((with_reducible refine pcond_ff ?_ ?_); · (first | with_reducible rfl | (simp +decide only [pvl]; done))) | ((with_reducible apply po_loadE); (· rfl); (· rfl)) | ((with_reducible apply po_load); (· rfl); (· first | exact if_pos rfl | (refine (if_neg ?_).trans (if_pos rfl); assumption) | (refine (if_neg ?_).trans ((if_neg ?_).trans (if_pos rfl)) <;> assumption)); (· rfl)) | ((with_reducible apply po_store); (· rfl); (· rfl); (· first | exact if_pos rfl | (refine (if_neg ?_).trans (if_pos rfl); assumption) | (refine (if_neg ?_).trans ((if_neg ?_).trans (if_pos rfl)) <;> assumption)); (· exact ⟨rfl, rfl⟩); (· exact of_decide_eq_true rfl); (· rfl); (· exact fun _ _ h => False.elim h)) | (with_reducible refine pnil ?_) | ((with_reducible refine pnext ?_); try simp +decide only [pvl]) | ((fail_if_success (with_reducible refine pseqk ?_)); (with_reducible refine pseq ?_)) | ((with_reducible refine pkeep ?_); (try simp +decide only [pvl, pvt])) | (with_reducible refine pregion ?_) | (with_reducible refine pskip ?_) | (with_reducible refine pret_ ?_) | (with_reducible refine pnext_ret ?_) | (with_reducible refine pexit_ ?_) | (with_reducible refine pnext_exit ?_) | (with_reducible refine pblock_ret ?_) | (with_reducible refine pblock_normal ?_) | (with_reducible refine pexit_in ?_) | (with_reducible refine pexit_out rfl ?_))
  refine prange l.length (by omega) (fun k => put (put (put (put (fun _ => .undef) (some 8) (i64 k)) (some 7) (i64 l.length)) (some 1) (.d (.fn g first caps))) (some 0) (.d (ints l))) (fun _ => st)
    (fun k => ∀ j (hj : j < k) (hl : j < l.length), pr l[j] = false) (fun j hj => by omega) rfl rfl (fun k => rfl) (fun k => rfl) ?_ ?_
  · intro hI
    have : ¬ l.any pr = true := by
      rw [List.any_eq_true]
      rintro ⟨x, hx, hp⟩
      obtain ⟨j, hj, rfl⟩ := List.getElem_of_mem hx
      rw [hI j hj hj] at hp; cases hp
    repeat (first | (with_reducible refine po_movt ?_) | (with_reducible refine po_movc ?_) | ((with_reducible apply po_lenI); · rfl) | ((with_reducible apply po); (· rfl); (· rfl)) | ((with_reducible refine po_yt ?_ ?_); · (first | with_reducible rfl | (simp +decide only [pvl]; done))) | ((with_reducible refine po_yf ?_ ?_); · (first | with_reducible rfl | (simp +decide only [pvl]; done))) | ((with_reducible refine po_nt ?_ ?_); · (first | with_reducible rfl | (simp +decide only [pvl]; done))) | ((with_reducible refine po_nf ?_ ?_); · (first | with_reducible rfl | (simp +decide only [pvl]; done))) | ((with_reducible refine po_not' ?_ ?_); · (first | with_reducible rfl | (simp +decide only [pvl]; done))) | ((with_reducible refine pcond_tt ?_ ?_); · (first | with_reducible rfl | (simp +decide only [pvl]; done))) | ((with_reducible refine pcond_ff ?_ ?_); · (first | with_reducible rfl | (simp +decide only [pvl]; done))) | ((with_reducible apply po_loadE); (· rfl); (· rfl)) | ((with_reducible apply po_load); (· rfl); (· first | exact if_pos rfl | (refine (if_neg ?_).trans (if_pos rfl); assumption) | (refine (if_neg ?_).trans ((if_neg ?_).trans (if_pos rfl)) <;> assumption)); (· rfl)) | ((with_reducible apply po_store); (· rfl); (· rfl); (· first | exact if_pos rfl | (refine (if_neg ?_).trans (if_pos rfl); assumption) | (refine (if_neg ?_).trans ((if_neg ?_).trans (if_pos rfl)) <;> assumption)); (· exact ⟨rfl, rfl⟩); (· exact of_decide_eq_true rfl); (· rfl); (· exact fun _ _ h => False.elim h)) | (with_reducible refine pnil ?_) | ((with_reducible refine pnext ?_); try simp +decide only [pvl]) | ((fail_if_success (with_reducible refine pseqk ?_)); (with_reducible refine pseq ?_)) | ((with_reducible refine pkeep ?_); (try simp +decide only [pvl, pvt])) | (with_reducible refine pregion ?_) | (with_reducible refine pskip ?_) | (with_reducible refine pret_ ?_) | (with_reducible refine pnext_ret ?_) | (with_reducible refine pexit_ ?_) | (with_reducible refine pnext_exit ?_) | (with_reducible refine pblock_ret ?_) | (with_reducible refine pblock_normal ?_) | (with_reducible refine pexit_in ?_) | (with_reducible refine pexit_out rfl ?_))
    refine pfin_pure ?_ (.refl _); rw [idxF, if_neg this]; rfl
  · intro k hk hI
    refine pblock ?_
    repeat (first | (with_reducible refine po_movt ?_) | (with_reducible refine po_movc ?_) | ((with_reducible apply po_lenI); · rfl) | ((with_reducible apply po); (· rfl); (· rfl)) | ((with_reducible refine po_yt ?_ ?_); · (first | with_reducible rfl | (simp +decide only [pvl]; done))) | ((with_reducible refine po_yf ?_ ?_); · (first | with_reducible rfl | (simp +decide only [pvl]; done))) | ((with_reducible refine po_nt ?_ ?_); · (first | with_reducible rfl | (simp +decide only [pvl]; done))) | ((with_reducible refine po_nf ?_ ?_); · (first | with_reducible rfl | (simp +decide only [pvl]; done))) | ((with_reducible refine po_not' ?_ ?_); · (first | with_reducible rfl | (simp +decide only [pvl]; done))) | ((with_reducible refine pcond_tt ?_ ?_); · (first | with_reducible rfl | (simp +decide only [pvl]; done))) | ((with_reducible refine pcond_ff ?_ ?_); · (first | with_reducible rfl | (simp +decide only [pvl]; done))) | ((with_reducible apply po_loadE); (· rfl); (· rfl)) | ((with_reducible apply po_load); (· rfl); (· first | exact if_pos rfl | (refine (if_neg ?_).trans (if_pos rfl); assumption) | (refine (if_neg ?_).trans ((if_neg ?_).trans (if_pos rfl)) <;> assumption)); (· rfl)) | ((with_reducible apply po_store); (· rfl); (· rfl); (· first | exact if_pos rfl | (refine (if_neg ?_).trans (if_pos rfl); assumption) | (refine (if_neg ?_).trans ((if_neg ?_).trans (if_pos rfl)) <;> assumption)); (· exact ⟨rfl, rfl⟩); (· exact of_decide_eq_true rfl); (· rfl); (· exact fun _ _ h => False.elim h)) | (with_reducible refine pnil ?_) | ((with_reducible refine pnext ?_); try simp +decide only [pvl]) | ((fail_if_success (with_reducible refine pseqk ?_)); (with_reducible refine pseq ?_)) | ((with_reducible refine pkeep ?_); (try simp +decide only [pvl, pvt])) | (with_reducible refine pregion ?_) | (with_reducible refine pskip ?_) | (with_reducible refine pret_ ?_) | (with_reducible refine pnext_ret ?_) | (with_reducible refine pexit_ ?_) | (with_reducible refine pnext_exit ?_) | (with_reducible refine pblock_ret ?_) | (with_reducible refine pblock_normal ?_) | (with_reducible refine pexit_in ?_) | (with_reducible refine pexit_out rfl ?_))
    refine po rfl (iaddr_ints rfl rfl hk) ?_
    repeat (first | (with_reducible refine po_movt ?_) | (with_reducible refine po_movc ?_) | ((with_reducible apply po_lenI); · rfl) | ((with_reducible apply po); (· rfl); (· rfl)) | ((with_reducible refine po_yt ?_ ?_); · (first | with_reducible rfl | (simp +decide only [pvl]; done))) | ((with_reducible refine po_yf ?_ ?_); · (first | with_reducible rfl | (simp +decide only [pvl]; done))) | ((with_reducible refine po_nt ?_ ?_); · (first | with_reducible rfl | (simp +decide only [pvl]; done))) | ((with_reducible refine po_nf ?_ ?_); · (first | with_reducible rfl | (simp +decide only [pvl]; done))) | ((with_reducible refine po_not' ?_ ?_); · (first | with_reducible rfl | (simp +decide only [pvl]; done))) | ((with_reducible refine pcond_tt ?_ ?_); · (first | with_reducible rfl | (simp +decide only [pvl]; done))) | ((with_reducible refine pcond_ff ?_ ?_); · (first | with_reducible rfl | (simp +decide only [pvl]; done))) | ((with_reducible apply po_loadE); (· rfl); (· rfl)) | ((with_reducible apply po_load); (· rfl); (· first | exact if_pos rfl | (refine (if_neg ?_).trans (if_pos rfl); assumption) | (refine (if_neg ?_).trans ((if_neg ?_).trans (if_pos rfl)) <;> assumption)); (· rfl)) | ((with_reducible apply po_store); (· rfl); (· rfl); (· first | exact if_pos rfl | (refine (if_neg ?_).trans (if_pos rfl); assumption) | (refine (if_neg ?_).trans ((if_neg ?_).trans (if_pos rfl)) <;> assumption)); (· exact ⟨rfl, rfl⟩); (· exact of_decide_eq_true rfl); (· rfl); (· exact fun _ _ h => False.elim h)) | (with_reducible refine pnil ?_) | ((with_reducible refine pnext ?_); try simp +decide only [pvl]) | ((fail_if_success (with_reducible refine pseqk ?_)); (with_reducible refine pseq ?_)) | ((with_reducible refine pkeep ?_); (try simp +decide only [pvl, pvt])) | (with_reducible refine pregion ?_) | (with_reducible refine pskip ?_) | (with_reducible refine pret_ ?_) | (with_reducible refine pnext_ret ?_) | (with_reducible refine pexit_ ?_) | (with_reducible refine pnext_exit ?_) | (with_reducible refine pblock_ret ?_) | (with_reducible refine pblock_normal ?_) | (with_reducible refine pexit_in ?_) | (with_reducible refine pexit_out rfl ?_))
    refine po_callv rfl rfl (hg l[k]) (fun _ _ h => False.elim h) ?_
    repeat (first | (with_reducible refine po_movt ?_) | (with_reducible refine po_movc ?_) | ((with_reducible apply po_lenI); · rfl) | ((with_reducible apply po); (· rfl); (· rfl)) | ((with_reducible refine po_yt ?_ ?_); · (first | with_reducible rfl | (simp +decide only [pvl]; done))) | ((with_reducible refine po_yf ?_ ?_); · (first | with_reducible rfl | (simp +decide only [pvl]; done))) | ((with_reducible refine po_nt ?_ ?_); · (first | with_reducible rfl | (simp +decide only [pvl]; done))) | ((with_reducible refine po_nf ?_ ?_); · (first | with_reducible rfl | (simp +decide only [pvl]; done))) | ((with_reducible refine po_not' ?_ ?_); · (first | with_reducible rfl | (simp +decide only [pvl]; done))) | ((with_reducible refine pcond_tt ?_ ?_); · (first | with_reducible rfl | (simp +decide only [pvl]; done))) | ((with_reducible refine pcond_ff ?_ ?_); · (first | with_reducible rfl | (simp +decide only [pvl]; done))) | ((with_reducible apply po_loadE); (· rfl); (· rfl)) | ((with_reducible apply po_load); (· rfl); (· first | exact if_pos rfl | (refine (if_neg ?_).trans (if_pos rfl); assumption) | (refine (if_neg ?_).trans ((if_neg ?_).trans (if_pos rfl)) <;> assumption)); (· rfl)) | ((with_reducible apply po_store); (· rfl); (· rfl); (· first | exact if_pos rfl | (refine (if_neg ?_).trans (if_pos rfl); assumption) | (refine (if_neg ?_).trans ((if_neg ?_).trans (if_pos rfl)) <;> assumption)); (· exact ⟨rfl, rfl⟩); (· exact of_decide_eq_true rfl); (· rfl); (· exact fun _ _ h => False.elim h)) | (with_reducible refine pnil ?_) | ((with_reducible refine pnext ?_); try simp +decide only [pvl]) | ((fail_if_success (with_reducible refine pseqk ?_)); (with_reducible refine pseq ?_)) | ((with_reducible refine pkeep ?_); (try simp +decide only [pvl, pvt])) | (with_reducible refine pregion ?_) | (with_reducible refine pskip ?_) | (with_reducible refine pret_ ?_) | (with_reducible refine pnext_ret ?_) | (with_reducible refine pexit_ ?_) | (with_reducible refine pnext_exit ?_) | (with_reducible refine pblock_ret ?_) | (with_reducible refine pblock_normal ?_) | (with_reducible refine pexit_in ?_) | (with_reducible refine pexit_out rfl ?_))
    by_cases hp : pr l[k] = true
    · rw [hp]
      repeat (first | (with_reducible refine po_movt ?_) | (with_reducible refine po_movc ?_) | ((with_reducible apply po_lenI); · rfl) | ((with_reducible apply po); (· rfl); (· rfl)) | ((with_reducible refine po_yt ?_ ?_); · (first | with_reducible rfl | (simp +decide only [pvl]; done))) | ((with_reducible refine po_yf ?_ ?_); · (first | with_reducible rfl | (simp +decide only [pvl]; done))) | ((with_reducible refine po_nt ?_ ?_); · (first | with_reducible rfl | (simp +decide only [pvl]; done))) | ((with_reducible refine po_nf ?_ ?_); · (first | with_reducible rfl | (simp +decide only [pvl]; done))) | ((with_reducible refine po_not' ?_ ?_); · (first | with_reducible rfl | (simp +decide only [pvl]; done))) | ((with_reducible refine pcond_tt ?_ ?_); · (first | with_reducible rfl | (simp +decide only [pvl]; done))) | ((with_reducible refine pcond_ff ?_ ?_); · (first | with_reducible rfl | (simp +decide only [pvl]; done))) | ((with_reducible apply po_loadE); (· rfl); (· rfl)) | ((with_reducible apply po_load); (· rfl); (· first | exact if_pos rfl | (refine (if_neg ?_).trans (if_pos rfl); assumption) | (refine (if_neg ?_).trans ((if_neg ?_).trans (if_pos rfl)) <;> assumption)); (· rfl)) | ((with_reducible apply po_store); (· rfl); (· rfl); (· first | exact if_pos rfl | (refine (if_neg ?_).trans (if_pos rfl); assumption) | (refine (if_neg ?_).trans ((if_neg ?_).trans (if_pos rfl)) <;> assumption)); (· exact ⟨rfl, rfl⟩); (· exact of_decide_eq_true rfl); (· rfl); (· exact fun _ _ h => False.elim h)) | (with_reducible refine pnil ?_) | ((with_reducible refine pnext ?_); try simp +decide only [pvl]) | ((fail_if_success (with_reducible refine pseqk ?_)); (with_reducible refine pseq ?_)) | ((with_reducible refine pkeep ?_); (try simp +decide only [pvl, pvt])) | (with_reducible refine pregion ?_) | (with_reducible refine pskip ?_) | (with_reducible refine pret_ ?_) | (with_reducible refine pnext_ret ?_) | (with_reducible refine pexit_ ?_) | (with_reducible refine pnext_exit ?_) | (with_reducible refine pblock_ret ?_) | (with_reducible refine pblock_normal ?_) | (with_reducible refine pexit_in ?_) | (with_reducible refine pexit_out rfl ?_))
      have h1 : l.any pr = true := List.any_eq_true.2 ⟨_, List.getElem_mem hk, hp⟩
      have h2 : l.findIdx pr = k := (List.findIdx_eq hk).2 ⟨hp, fun j hj => hI j hj (by omega)⟩
      refine pfin_pure ?_ (.refl _); rw [idxF, if_pos h1, h2]; rfl
    · have hp : pr l[k] = false := by simpa using hp
      rw [hp]
      repeat (first | (with_reducible refine po_movt ?_) | (with_reducible refine po_movc ?_) | ((with_reducible apply po_lenI); · rfl) | ((with_reducible apply po); (· rfl); (· rfl)) | ((with_reducible refine po_yt ?_ ?_); · (first | with_reducible rfl | (simp +decide only [pvl]; done))) | ((with_reducible refine po_yf ?_ ?_); · (first | with_reducible rfl | (simp +decide only [pvl]; done))) | ((with_reducible refine po_nt ?_ ?_); · (first | with_reducible rfl | (simp +decide only [pvl]; done))) | ((with_reducible refine po_nf ?_ ?_); · (first | with_reducible rfl | (simp +decide only [pvl]; done))) | ((with_reducible refine po_not' ?_ ?_); · (first | with_reducible rfl | (simp +decide only [pvl]; done))) | ((with_reducible refine pcond_tt ?_ ?_); · (first | with_reducible rfl | (simp +decide only [pvl]; done))) | ((with_reducible refine pcond_ff ?_ ?_); · (first | with_reducible rfl | (simp +decide only [pvl]; done))) | ((with_reducible apply po_loadE); (· rfl); (· rfl)) | ((with_reducible apply po_load); (· rfl); (· first | exact if_pos rfl | (refine (if_neg ?_).trans (if_pos rfl); assumption) | (refine (if_neg ?_).trans ((if_neg ?_).trans (if_pos rfl)) <;> assumption)); (· rfl)) | ((with_reducible apply po_store); (· rfl); (· rfl); (· first | exact if_pos rfl | (refine (if_neg ?_).trans (if_pos rfl); assumption) | (refine (if_neg ?_).trans ((if_neg ?_).trans (if_pos rfl)) <;> assumption)); (· exact ⟨rfl, rfl⟩); (· exact of_decide_eq_true rfl); (· rfl); (· exact fun _ _ h => False.elim h)) | (with_reducible refine pnil ?_) | ((with_reducible refine pnext ?_); try simp +decide only [pvl]) | ((fail_if_success (with_reducible refine pseqk ?_)); (with_reducible refine pseq ?_)) | ((with_reducible refine pkeep ?_); (try simp +decide only [pvl, pvt])) | (with_reducible refine pregion ?_) | (with_reducible refine pskip ?_) | (with_reducible refine pret_ ?_) | (with_reducible refine pnext_ret ?_) | (with_reducible refine pexit_ ?_) | (with_reducible refine pnext_exit ?_) | (with_reducible refine pblock_ret ?_) | (with_reducible refine pblock_normal ?_) | (with_reducible refine pexit_in ?_) | (with_reducible refine pexit_out rfl ?_))
      refine ⟨fun j hj hl' => ?_, ?_, ?_, ?_⟩
      · by_cases e : j = k
        · subst e; exact hp
        · exact hI j (by omega) hl'
      all_goals first | trivial | rfl

theorem C22 {st : St} {g : FuncId} {first caps : List Dat} {pr : Int → Bool} (hg : ∀ x : Int, PureAt (PCalls Try.prog GG) st g (first.map .d ++ [.d (.int .i64 x)] ++ caps.map .d) (b2 (pr x))) (l : List Int) (hl : l.length < 2 ^ 62) :
    PureAt (PCalls Try.prog GG) st 22 [.d (ints l), .d (.fn g first caps)] (b2 (l.any pr)) := by
  refine pcalls_of k22 e22 (of_decide_eq_true rfl) ?_
  dsimp only [c22]
  repeat (first | (with_reducible refine po_movt ?_) | (with_reducible refine po_movc ?_) | ((with_reducible apply po_lenI); · rfl) | ((with_reducible apply po); (· rfl); (· rfl)) | ((with_reducible refine po_yt ?_ ?_); · (first | with_reducible rfl | (simp +decide only [pvl]; done))) | ((with_reducible refine po_yf ?_ ?_); · (first | with_reducible rfl | (simp +decide only [pvl]; done))) | ((with_reducible refine po_nt ?_ ?_); · (first | with_reducible rfl | (simp +decide only [pvl]; done))) | ((with_reducible refine po_nf ?_ ?_); · (first | with_reducible rfl | (simp +decide only [pvl]; done))) | ((with_reducible refine po_not' ?_ ?_); · (first | with_reducible rfl | (simp +decide only [pvl]; done))) | ((with_reducible refine pcond_tt ?_ ?_); · (first | with_reducible rfl | (simp +decide only [pvl]; done))) | ((with_reducible refine pcond_ff ?_ ?_); · (first | with_reducible rfl | (simp +decide only [pvl]; done))) | ((with_reducible apply po_loadE); (· rfl); (· rfl)) | ((with_reducible apply po_load); (· rfl); (· first | exact if_pos rfl | (refine (if_neg ?_).trans (if_pos rfl); assumption) | (refine (if_neg ?_).trans ((if_neg ?_).trans (if_pos rfl)) <;> assumption)); (· rfl)) | ((with_reducible apply po_store); (· rfl); (· rfl); (· first | exact if_pos rfl | (refine (if_neg ?_).trans (if_pos rfl); assumption) | (refine (if_neg ?_).trans ((if_neg ?_).trans (if_pos rfl)) <;> assumption)); (· exact ⟨rfl, rfl⟩); (· exact of_decide_eq_true rfl); (· rfl); (· exact fun _ _ h => False.elim h)) | (with_reducible refine pnil ?_) | ((with_reducible refine pnext ?_); try simp +decide only [pvl]) | ((fail_if_success (with_reducible refine pseqk ?_)); (with_reducible refine pseq ?_)) | ((with_reducible refine pkeep ?_); (try simp +decide only [pvl, pvt])) | (with_reducible refine pregion ?_) | (with_reducible refine pskip ?_) | (with_reducible refine pret_ ?_) | (with_reducible refine pnext_ret ?_) | (with_reducible refine pexit_ ?_) | (with_reducible refine pnext_exit ?_) | (with_reducible refine pblock_ret ?_) | (with_reducible refine pblock_normal ?_) | (with_reducible refine pexit_in ?_) | (with_reducible refine pexit_out rfl ?_))
  refine po_callA rfl (C29 hg l hl) (fun _ _ h => False.elim h) ?_
  repeat (first | (with_reducible refine po_movt ?_) | (with_reducible refine po_movc ?_) | ((with_reducible apply po_lenI); · rfl) | ((with_reducible apply po); (· rfl); (· rfl)) | ((with_reducible refine po_yt ?_ ?_); · (first | with_reducible rfl | (simp +decide only [pvl]; done))) | ((with_reducible refine po_yf ?_ ?_); · (first | with_reducible rfl | (simp +decide only [pvl]; done))) | ((with_reducible refine po_nt ?_ ?_); · (first | with_reducible rfl | (simp +decide only [pvl]; done))) | ((with_reducible refine po_nf ?_ ?_); · (first | with_reducible rfl | (simp +decide only [pvl]; done))) | ((with_reducible refine po_not' ?_ ?_); · (first | with_reducible rfl | (simp +decide only [pvl]; done))) | ((with_reducible refine pcond_tt ?_ ?_); · (first | with_reducible rfl | (simp +decide only [pvl]; done))) | ((with_reducible refine pcond_ff ?_ ?_); · (first | with_reducible rfl | (simp +decide only [pvl]; done))) | ((with_reducible apply po_loadE); (· rfl); (· rfl)) | ((with_reducible apply po_load); (· rfl); (· first | exact if_pos rfl | (refine (if_neg ?_).trans (if_pos rfl); assumption) | (refine (if_neg ?_).trans ((if_neg ?_).trans (if_pos rfl)) <;> assumption)); (· rfl)) | ((with_reducible apply po_store); (· rfl); (· rfl); (· first | exact if_pos rfl | (refine (if_neg ?_).trans (if_pos rfl); assumption) | (refine (if_neg ?_).trans ((if_neg ?_).trans (if_pos rfl)) <;> assumption)); (· exact ⟨rfl, rfl⟩); (· exact of_decide_eq_true rfl); (· rfl); (· exact fun _ _ h => False.elim h)) | (with_reducible refine pnil ?_) | ((with_reducible refine pnext ?_); try simp +decide only [pvl]) | ((fail_if_success (with_reducible refine pseqk ?_)); (with_reducible refine pseq ?_)) | ((with_reducible refine pkeep ?_); (try simp +decide only [pvl, pvt])) | (with_reducible refine pregion ?_) | (with_reducible refine pskip ?_) | (with_reducible refine pret_ ?_) | (with_reducible refine pnext_ret ?_) | (with_reducible refine pexit_ ?_) | (with_reducible refine pnext_exit ?_) | (with_reducible refine pblock_ret ?_) | (with_reducible refine pblock_normal ?_) | (with_reducible refine pexit_in ?_) | (with_reducible refine pexit_out rfl ?_))
  have : decide (idxF pr l ≥ 0) = l.any pr := by
    unfold idxF
    by_cases h : l.any pr = true
    · rw [if_pos h, h]; simp
    · rw [if_neg h]; simpa using h
  exact pfin_pure (by rw [← this]; rfl) (.refl _)

theorem C23 {st : St} {b : Nat} {l : List Int} (hb : st.box b = some [.d (ints l)]) (hl : l.length < 2 ^ 62) (x : Int) : PureAt (PCalls Try.prog GG) st 23 [.d (.int .i64 x), .d (.ptr b 0)] (b2 (!decide (x ∈ l))) := by
  refine pcalls_of k23 e23 (of_decide_eq_true rfl) ?_
  dsimp only [c23]
  refine pseq (pregion (po_movc (pnil (pnext (pseq (pregion (po_load rfl hb rfl ?_)))))))
  repeat (first | (with_reducible refine po_movt ?_) | (with_reducible refine po_movc ?_) | ((with_reducible apply po_lenI); · rfl) | ((with_reducible apply po); (· rfl); (· rfl)) | ((with_reducible refine po_yt ?_ ?_); · (first | with_reducible rfl | (simp +decide only [pvl]; done))) | ((with_reducible refine po_yf ?_ ?_); · (first | with_reducible rfl | (simp +decide only [pvl]; done))) | ((with_reducible refine po_nt ?_ ?_); · (first | with_reducible rfl | (simp +decide only [pvl]; done))) | ((with_reducible refine po_nf ?_ ?_); · (first | with_reducible rfl | (simp +decide only [pvl]; done))) | ((with_reducible refine po_not' ?_ ?_); · (first | with_reducible rfl | (simp +decide only [pvl]; done))) | ((with_reducible refine pcond_tt ?_ ?_); · (first | with_reducible rfl | (simp +decide only [pvl]; done))) | ((with_reducible refine pcond_ff ?_ ?_); · (first | with_reducible rfl | (simp +decide only [pvl]; done))) | ((with_reducible apply po_loadE); (· rfl); (· rfl)) | ((with_reducible apply po_load); (· rfl); (· first | exact if_pos rfl | (refine (if_neg ?_).trans (if_pos rfl); assumption) | (refine (if_neg ?_).trans ((if_neg ?_).trans (if_pos rfl)) <;> assumption)); (· rfl)) | ((with_reducible apply po_store); (· rfl); (· rfl); (· first | exact if_pos rfl | (refine (if_neg ?_).trans (if_pos rfl); assumption) | (refine (if_neg ?_).trans ((if_neg ?_).trans (if_pos rfl)) <;> assumption)); (· exact ⟨rfl, rfl⟩); (· exact of_decide_eq_true rfl); (· rfl); (· exact fun _ _ h => False.elim h)) | (with_reducible refine pnil ?_) | ((with_reducible refine pnext ?_); try simp +decide only [pvl]) | ((fail_if_success (with_reducible refine pseqk ?_)); (with_reducible refine pseq ?_)) | ((with_reducible refine pkeep ?_); (try simp +decide only [pvl, pvt])) | (with_reducible refine pregion ?_) | (with_reducible refine pskip ?_) | (with_reducible refine pret_ ?_) | (with_reducible refine pnext_ret ?_) | (with_reducible refine pexit_ ?_) | (with_reducible refine pnext_exit ?_) | (with_reducible refine pblock_ret ?_) | (with_reducible refine pblock_normal ?_) | (with_reducible refine pexit_in ?_) | (with_reducible refine pexit_out rfl ?_))
  refine po_call rfl (C20 l x hl) (fun _ _ h => False.elim h) ?_
  repeat (first | (with_reducible refine po_movt ?_) | (with_reducible refine po_movc ?_) | ((with_reducible apply po_lenI); · rfl) | ((with_reducible apply po); (· rfl); (· rfl)) | ((with_reducible refine po_yt ?_ ?_); · (first | with_reducible rfl | (simp +decide only [pvl]; done))) | ((with_reducible refine po_yf ?_ ?_); · (first | with_reducible rfl | (simp +decide only [pvl]; done))) | ((with_reducible refine po_nt ?_ ?_); · (first | with_reducible rfl | (simp +decide only [pvl]; done))) | ((with_reducible refine po_nf ?_ ?_); · (first | with_reducible rfl | (simp +decide only [pvl]; done))) | ((with_reducible refine po_not' ?_ ?_); · (first | with_reducible rfl | (simp +decide only [pvl]; done))) | ((with_reducible refine pcond_tt ?_ ?_); · (first | with_reducible rfl | (simp +decide only [pvl]; done))) | ((with_reducible refine pcond_ff ?_ ?_); · (first | with_reducible rfl | (simp +decide only [pvl]; done))) | ((with_reducible apply po_loadE); (· rfl); (· rfl)) | ((with_reducible apply po_load); (· rfl); (· first | exact if_pos rfl | (refine (if_neg ?_).trans (if_pos rfl); assumption) | (refine (if_neg ?_).trans ((if_neg ?_).trans (if_pos rfl)) <;> assumption)); (· rfl)) | ((with_reducible apply po_store); (· rfl); (· rfl); (· first | exact if_pos rfl | (refine (if_neg ?_).trans (if_pos rfl); assumption) | (refine (if_neg ?_).trans ((if_neg ?_).trans (if_pos rfl)) <;> assumption)); (· exact ⟨rfl, rfl⟩); (· exact of_decide_eq_true rfl); (· rfl); (· exact fun _ _ h => False.elim h)) | (with_reducible refine pnil ?_) | ((with_reducible refine pnext ?_); try simp +decide only [pvl]) | ((fail_if_success (with_reducible refine pseqk ?_)); (with_reducible refine pseq ?_)) | ((with_reducible refine pkeep ?_); (try simp +decide only [pvl, pvt])) | (with_reducible refine pregion ?_) | (with_reducible refine pskip ?_) | (with_reducible refine pret_ ?_) | (with_reducible refine pnext_ret ?_) | (with_reducible refine pexit_ ?_) | (with_reducible refine pnext_exit ?_) | (with_reducible refine pblock_ret ?_) | (with_reducible refine pblock_normal ?_) | (with_reducible refine pexit_in ?_) | (with_reducible refine pexit_out rfl ?_))
  exact pfin_pure rfl (.refl _)

theorem C15 (num : Int) (ms l : List Int) (hm : ms.length < 2 ^ 62) (hl : l.length < 2 ^ 62) : Pure (PCalls Try.prog GG) 15 [view num ms, .d (ints l)] (b2 (decide (∀ x ∈ ms, x ∈ l))) := by
  intro st
  refine pcalls_of k15 e15 (of_decide_eq_true rfl) ?_
  dsimp only [c15]
  refine pseq (pregion (po_box (cells := [i64 num, .d (ints ms)]) rfl rfl fun b hb => po_box (cells := [.d (ints l)]) rfl rfl fun c hc => ?_))
  have hbc : b ≠ c := fresh_ne hc
  have hcn : st.box c = none := (fresh_under hc).1
  have hle : st.le ((st.setBox b [i64 num, .d (ints ms)]).setBox c [.d (ints l)]) := ((St.le.refl _).setBox _ hb.1).setBox _ hcn
  repeat (first | (with_reducible refine po_movt ?_) | (with_reducible refine po_movc ?_) | ((with_reducible apply po_lenI); · rfl) | ((with_reducible apply po); (· rfl); (· rfl)) | ((with_reducible refine po_yt ?_ ?_); · (first | with_reducible rfl | (simp +decide only [pvl]; done))) | ((with_reducible refine po_yf ?_ ?_); · (first | with_reducible rfl | (simp +decide only [pvl]; done))) | ((with_reducible refine po_nt ?_ ?_); · (first | with_reducible rfl | (simp +decide only [pvl]; done))) | ((with_reducible refine po_nf ?_ ?_); · (first | with_reducible rfl | (simp +decide only [pvl]; done))) | ((with_reducible refine po_not' ?_ ?_); · (first | with_reducible rfl | (simp +decide only [pvl]; done))) | ((with_reducible refine pcond_tt ?_ ?_); · (first | with_reducible rfl | (simp +decide only [pvl]; done))) | ((with_reducible refine pcond_ff ?_ ?_); · (first | with_reducible rfl | (simp +decide only [pvl]; done))) | ((with_reducible apply po_loadE); (· rfl); (· rfl)) | ((with_reducible apply po_load); (· rfl); (· first | exact if_pos rfl | (refine (if_neg ?_).trans (if_pos rfl); assumption) | (refine (if_neg ?_).trans ((if_neg ?_).trans (if_pos rfl)) <;> assumption)); (· rfl)) | ((with_reducible apply po_store); (· rfl); (· rfl); (· first | exact if_pos rfl | (refine (if_neg ?_).trans (if_pos rfl); assumption) | (refine (if_neg ?_).trans ((if_neg ?_).trans (if_pos rfl)) <;> assumption)); (· exact ⟨rfl, rfl⟩); (· exact of_decide_eq_true rfl); (· rfl); (· exact fun _ _ h => False.elim h)) | (with_reducible refine pnil ?_) | ((with_reducible refine pnext ?_); try simp +decide only [pvl]) | ((fail_if_success (with_reducible refine pseqk ?_)); (with_reducible refine pseq ?_)) | ((with_reducible refine pkeep ?_); (try simp +decide only [pvl, pvt])) | (with_reducible refine pregion ?_) | (with_reducible refine pskip ?_) | (with_reducible refine pret_ ?_) | (with_reducible refine pnext_ret ?_) | (with_reducible refine pexit_ ?_) | (with_reducible refine pnext_exit ?_) | (with_reducible refine pblock_ret ?_) | (with_reducible refine pblock_normal ?_) | (with_reducible refine pexit_in ?_) | (with_reducible refine pexit_out rfl ?_))
  refine po_callA rfl (C22 (first := []) (caps := [.ptr c 0]) (fun x => C23 (b := c) (l := l) (if_pos rfl) hl x) ms hm) (fun _ _ h => False.elim h) ?_
  repeat (first | (with_reducible refine po_movt ?_) | (with_reducible refine po_movc ?_) | ((with_reducible apply po_lenI); · rfl) | ((with_reducible apply po); (· rfl); (· rfl)) | ((with_reducible refine po_yt ?_ ?_); · (first | with_reducible rfl | (simp +decide only [pvl]; done))) | ((with_reducible refine po_yf ?_ ?_); · (first | with_reducible rfl | (simp +decide only [pvl]; done))) | ((with_reducible refine po_nt ?_ ?_); · (first | with_reducible rfl | (simp +decide only [pvl]; done))) | ((with_reducible refine po_nf ?_ ?_); · (first | with_reducible rfl | (simp +decide only [pvl]; done))) | ((with_reducible refine po_not' ?_ ?_); · (first | with_reducible rfl | (simp +decide only [pvl]; done))) | ((with_reducible refine pcond_tt ?_ ?_); · (first | with_reducible rfl | (simp +decide only [pvl]; done))) | ((with_reducible refine pcond_ff ?_ ?_); · (first | with_reducible rfl | (simp +decide only [pvl]; done))) | ((with_reducible apply po_loadE); (· rfl); (· rfl)) | ((with_reducible apply po_load); (· rfl); (· first | exact if_pos rfl | (refine (if_neg ?_).trans (if_pos rfl); assumption) | (refine (if_neg ?_).trans ((if_neg ?_).trans (if_pos rfl)) <;> assumption)); (· rfl)) | ((with_reducible apply po_store); (· rfl); (· rfl); (· first | exact if_pos rfl | (refine (if_neg ?_).trans (if_pos rfl); assumption) | (refine (if_neg ?_).trans ((if_neg ?_).trans (if_pos rfl)) <;> assumption)); (· exact ⟨rfl, rfl⟩); (· exact of_decide_eq_true rfl); (· rfl); (· exact fun _ _ h => False.elim h)) | (with_reducible refine pnil ?_) | ((with_reducible refine pnext ?_); try simp +decide only [pvl]) | ((fail_if_success (with_reducible refine pseqk ?_)); (with_reducible refine pseq ?_)) | ((with_reducible refine pkeep ?_); (try simp +decide only [pvl, pvt])) | (with_reducible refine pregion ?_) | (with_reducible refine pskip ?_) | (with_reducible refine pret_ ?_) | (with_reducible refine pnext_ret ?_) | (with_reducible refine pexit_ ?_) | (with_reducible refine pnext_exit ?_) | (with_reducible refine pblock_ret ?_) | (with_reducible refine pblock_normal ?_) | (with_reducible refine pexit_in ?_) | (with_reducible refine pexit_out rfl ?_))
  have : (!ms.any fun x => !decide (x ∈ l)) = decide (∀ x ∈ ms, x ∈ l) := by
    by_cases h : ∀ x ∈ ms, x ∈ l
    · rw [decide_eq_true h]
      have : (ms.any fun x => !decide (x ∈ l)) = false := by
        rw [List.any_eq_false]
        intro x hx
        simp [h x hx]
      rw [this]; rfl
    · rw [decide_eq_false h]
      have : (ms.any fun x => !decide (x ∈ l)) = true := by
        rw [List.any_eq_true]
        simp only [Classical.not_forall] at h
        obtain ⟨x, hx, hn⟩ := h
        exact ⟨x, hx, by simp [hn]⟩
      rw [this]; rfl
  exact pfin_pure (by rw [← this]; rfl) hle

/-- The members of bits may be members. -/
theorem memb0_mem {a : Int} {k : Nat} {x : Int} (h : x ∈ memb0 a k) : 0 ≤ x ∧ x < k := by
  simp only [memb0, List.mem_map, List.mem_filter, List.mem_range] at h
  obtain ⟨n, ⟨h1, _⟩, rfl⟩ := h
  omega
theorem memb0_rising (a : Int) : ∀ k : Nat, (memb0 a k).Pairwise (· < ·)
  | 0 => by simp [memb0]
  | k + 1 => by
    rw [memb0_succ]
    split
    · rw [List.pairwise_append]
      refine ⟨memb0_rising a k, by simp, fun x hx y hy => ?_⟩
      rw [List.mem_singleton] at hy
      have := memb0_mem hx
      omega
    · rw [List.append_nil]; exact memb0_rising a k
theorem okM_memb (a : Int) : okM (memb a) = 0 := by
  have hlen := memb_length a
  unfold okM
  rw [if_neg (by omega), if_pos]
  intro i hi
  have key : (memb a).Pairwise (· < ·) ∧ ∀ x ∈ memb a, 0 ≤ x ∧ x < 16 := by
    unfold memb
    split
    · simp
    · exact ⟨memb0_rising a 16, fun x hx => by have := memb0_mem hx; omega⟩
  have e1 : (memb a).getD i 0 = (memb a)[i] := by simp [hi]
  have hx := key.2 _ (List.getElem_mem hi)
  rw [badAt, e1]
  by_cases h0 : i = 0
  · subst h0; simp [bad3]; omega
  · have hi' : i - 1 < (memb a).length := by omega
    have e2 : (memb a).getD (i - 1) 0 = (memb a)[i - 1] := by simp [hi']
    have := List.pairwise_iff_getElem.1 key.1 (i - 1) i hi' hi (by omega)
    rw [e2]; simp [bad3]; omega

end Go.Pv
