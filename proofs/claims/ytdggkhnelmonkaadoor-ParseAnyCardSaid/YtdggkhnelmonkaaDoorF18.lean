/- Functions of the program, by value. No condition. -/
import Derived.Test.YtdggkhnelmonkaaDoorF13
import Derived.Test.YtdggkhnelmonkaaDoorF10
namespace Go.Pv
open Go.Proofs
set_option maxRecDepth 100000
set_option maxHeartbeats 8000000
/-- prompter/parse.Parse$1 -/
abbrev c40_1 : PCode :=
 (.region [⟨(.some 11), (.bld [(.d (.str (bs []))), (.d (.int .i64 0)), (.d (.int .i64 0)), (.full []), (.full []), (.full [])] []), .none⟩,
   ⟨(.some 12), (.faddr 0 (.t 3)), .none⟩,
   ⟨(.some 13), (.load .false 1 (.t 12) .true), .none⟩,
   ⟨(.some 14), (.faddr 1 (.t 3)), .none⟩,
   ⟨(.some 15), (.load .false 1 (.t 14) .true), .none⟩,
   ⟨.none, (.store 6 (.t 0) (.t 11)), .none⟩,
   ⟨.none, (.store 1 (.t 1) (.t 13)), .none⟩,
   ⟨.none, (.store 1 (.t 2) (.t 15)), .none⟩])
abbrev c40_0 : PCode :=
 (.cond (.t 10)
  c40_1
  .skip)
abbrev c40_p : PCode :=
 (.keep [0, 1, 2, 3, 4] (.seq (.region [⟨(.some 10), (.mov (.t 4)), .none⟩])
 c40_0))
abbrev c40_o : List POper := [⟨(.some 7), (.tassert 92 (.agg [(.d (.int .i64 0)), (.d (.int .i64 0))]) (.t 6)), .none⟩,
   ⟨(.some 5), (.mov (.t 7)), .none⟩,
   ⟨(.some 8), (.ext (.t 5) 0), .none⟩,
   ⟨(.some 9), (.ext (.t 5) 1), .none⟩,
   ⟨(.some 3), (.alloc [(.d (.int .i64 0)), (.d (.int .i64 0))]), .none⟩,
   ⟨.none, (.store 2 (.t 3) (.t 8)), .none⟩,
   ⟨(.some 4), (.mov (.t 9)), .none⟩]
def c40 : RFun := ⟨6, c40_o, c40_p, 16⟩

/-- prompter/parse.Parse -/
abbrev c19_3 : PCode :=
 (.seq (.region [⟨(.some 16), (.bld [(.d (.str (bs []))), (.d (.int .i64 0)), (.d (.int .i64 0)), (.full []), (.full []), (.full [])] []), .none⟩,
   ⟨(.some 17), (.load .false 1 (.t 3) .true), .none⟩,
   ⟨(.some 18), (.load .false 1 (.t 4) .true), .none⟩,
   ⟨.none, (.store 6 (.t 2) (.t 16)), .none⟩,
   ⟨.none, (.store 1 (.t 3) (.t 17)), .none⟩,
   ⟨.none, (.store 1 (.t 4) (.t 18)), .none⟩])
 .ret)
abbrev c19_2 : PCode :=
 (.cond (.t 15)
  c19_3
  .skip)
abbrev c19_4 : PCode :=
 (.keep [0, 2, 3, 4, 5] (.seq (.region [⟨(.some 19), (.mov (.t 5)), .none⟩,
   ⟨(.some 20), (.bld [(.full []), (.d (.int .i64 0))] [(0, (1, (.t 19)))]), .none⟩,
   ⟨(.some 21), (.box 2 (.t 20)), .none⟩,
   ⟨(.some 6), (.mov (.t 21)), .none⟩])
 .skip))
abbrev c19_1 : PCode :=
 (.keep [0, 2, 3, 4, 5] (.seq (.seq (.region [⟨(.some 14), (.load .false 1 (.t 4) .false), .none⟩,
   ⟨(.some 15), (.bin .neq (.t 14) (.c (.d (.int .i64 0)))), .none⟩])
 c19_2)
 c19_4))
abbrev c19_0 : PCode :=
 (.keep [0, 2, 3, 4] (.seq (.region [⟨(.some 9), (.mov (.t 0)), .none⟩,
   ⟨(.some 10), (.callE 21 [(.t 9)]), .none⟩,
   ⟨(.some 8), (.mov (.t 10)), .none⟩,
   ⟨(.some 11), (.ext (.t 8) 0), .none⟩,
   ⟨(.some 12), (.ext (.t 8) 1), .none⟩,
   ⟨(.some 13), (.ext (.t 8) 2), .none⟩,
   ⟨(.some 5), (.mov (.t 11)), .none⟩,
   ⟨.none, (.store 1 (.t 3) (.t 12)), .none⟩,
   ⟨.none, (.store 1 (.t 4) (.t 13)), .none⟩])
 c19_1))
abbrev c19_8 : PCode :=
 (.seq (.region [⟨(.some 29), (.bld [(.d (.str (bs []))), (.d (.int .i64 0)), (.d (.int .i64 0)), (.full []), (.full []), (.full [])] []), .none⟩,
   ⟨(.some 30), (.mov (.t 0)), .none⟩,
   ⟨(.some 31), (.lenS (.t 30)), .none⟩,
   ⟨(.some 32), (.mov (.t 7)), .none⟩,
   ⟨.none, (.store 6 (.t 2) (.t 29)), .none⟩,
   ⟨.none, (.store 1 (.t 3) (.t 31)), .none⟩,
   ⟨.none, (.store 1 (.t 4) (.t 32)), .none⟩])
 .ret)
abbrev c19_7 : PCode :=
 (.cond (.t 28)
  c19_8
  .skip)
abbrev c19_6 : PCode :=
 (.keep [0, 2, 3, 4, 7] (.seq (.region [⟨(.some 27), (.mov (.t 7)), .none⟩,
   ⟨(.some 28), (.bin .neq (.t 27) (.c (.d (.int .i64 0)))), .none⟩])
 c19_7))
abbrev c19_9 : PCode :=
 (.seq (.region [⟨(.some 33), (.load .true 6 (.t 2) .false), .none⟩,
   ⟨.none, (.store 6 (.t 2) (.t 33)), .none⟩,
   ⟨.none, (.store 1 (.t 3) (.c (.d (.int .i64 0)))), .none⟩,
   ⟨.none, (.store 1 (.t 4) (.c (.d (.int .i64 0)))), .none⟩])
 .ret)
abbrev c19_5 : PCode :=
 (.keep [0, 2, 3, 4] (.seq (.seq (.region [⟨(.some 25), (.load .true 6 (.t 2) .false), .none⟩,
   ⟨(.some 26), (.callE 18 [(.t 25)]), .none⟩,
   ⟨(.some 7), (.mov (.t 26)), .none⟩])
 c19_6)
 c19_9))
abbrev c19_a : PCode :=
 (.seq (.region [⟨(.some 2), (.alloc [(.d (.str (bs []))), (.d (.int .i64 0)), (.d (.int .i64 0)), (.full []), (.full []), (.full [])]), .none⟩,
   ⟨(.some 3), (.alloc [(.d (.int .i64 0))]), .none⟩,
   ⟨(.some 4), (.alloc [(.d (.int .i64 0))]), .none⟩])
 c19_0)
abbrev c19_i : List POper := [⟨(.some 22), (.mkfn 40 [] [(.t 2), (.t 3), (.t 4)]), .none⟩]
abbrev c19_p : PCode :=
 (.seq (.region [⟨(.some 23), (.mov (.t 6)), .none⟩,
   ⟨(.some 24), (.callE 41 [(.t 23)]), .none⟩,
   ⟨.none, (.store 6 (.t 2) (.t 24)), .none⟩])
 c19_5)
def c19 : DFun := ⟨c19_a, c19_i, (.t 22), c19_p, 34, [(.cell 2 .true 6), (.cell 3 .false 1), (.cell 4 .false 1)]⟩

theorem e40 : entered Tryd.prog 40 = true := by kernel_rfl
theorem k40 : compRec Tryd.prog (fun i => if i = 2 then 2 else 0) 40 = some c40.er := by kernel_rfl
theorem e19 : entered Tryd.prog 19 = true := by kernel_rfl
theorem k19 : compDfr Tryd.prog (fun i => if i = 3 then 2 else 16) 19 = some c19.er := by kernel_rfl

end Go.Pv
namespace Go.Pv
open Go.Proofs
set_option maxRecDepth 100000
set_option maxHeartbeats 8000000
/-- Nobody panics: nothing is turned. -/
theorem recNone (p2 p3 p4 : Nat) (st : St) : DCalls Tryd.prog GK 40 [ptrAt p2, ptrAt p3, ptrAt p4] none st (fun t => st.le t) := by
  refine dcalls_of k40 e40 (of_decide_eq_true rfl) ?_
  dsimp only [c40]
  refine pstartO fun t hL => ?_
  refine gor hL ?_; (repeat (clear hL; intro t hL; refine gor hL ?_))
  (refine gor hL ?_; (repeat (clear hL; intro t hL; refine gor hL ?_))); (with_reducible refine po_allocL hL rfl ?_); clear hL; intro p3 t hL
  refine gor hL ?_; (repeat (clear hL; intro t hL; refine gor hL ?_))
  exact ⟨fun _ h => (by cases h), hL.le⟩
abbrev zcells : List AV := [.d (.str (bs [])), .d (.int .i64 0), .d (.int .i64 0), .full [], .full [], .full []]
theorem recSome (p2 p3 p4 : Nat) (p e : Int) (st t : St) (hL : Lay st [.box p2 zcells, .box p3 [i64 0], .box p4 [i64 0]] t) :
    DCalls Tryd.prog GK 40 [ptrAt p2, ptrAt p3, ptrAt p4] (some (wrongV p e)) t (fun t' => Lay st [.box p2 zcells, .box p3 [i64 p], .box p4 [i64 e]] t') := by
  refine dcalls_of k40 e40 (of_decide_eq_true rfl) ?_
  dsimp only [c40]
  refine gor hL ?_; (repeat (clear hL; intro t hL; refine gor hL ?_))
  (refine gor hL ?_; (repeat (clear hL; intro t hL; refine gor hL ?_))); (with_reducible refine po_allocL hL rfl ?_); clear hL; intro p5 t hL
  refine gor hL ?_; (repeat (clear hL; intro t hL; refine gor hL ?_))
  refine po_loadSt (H := [.box p5 [i64 p, i64 e]]) (Stb.start _ (fun _ => .undef) t) hL rfl rfl (by repeat (first | exact Rem.head | apply Rem.tail)) (by (repeat (first | (with_reducible exact Pick.nil) | ((with_reducible apply Pick.cons); · (repeat (first | exact Rem.head | apply Rem.tail)))))) rfl (fun hS => ?_)
  refine gor hL ?_; (repeat (clear hL; intro t hL; refine gor hL ?_))
  refine po_loadSt hS hL rfl rfl (by repeat (first | exact Rem.head | apply Rem.tail)) (by (repeat (first | (with_reducible exact Pick.nil) | ((with_reducible apply Pick.cons); · (repeat (first | exact Rem.head | apply Rem.tail)))))) rfl (fun hS => ?_)
  refine gor hL ?_; (repeat (clear hL; intro t hL; refine gor hL ?_))
  refine po_storeSt hS hL rfl rfl (by repeat (first | exact Rem.head | apply Rem.tail)) rfl ⟨rfl, rfl⟩ (of_decide_eq_true rfl) rfl (by (repeat (first | (with_reducible exact Pick.nil) | ((with_reducible apply Pick.cons); · (repeat (first | exact Rem.head | apply Rem.tail)))))) (fun t hL hS => ?_)
  refine po_storeSt hS hL rfl rfl (by repeat (first | exact Rem.head | apply Rem.tail)) rfl ⟨rfl, rfl⟩ (of_decide_eq_true rfl) rfl (by (repeat (first | (with_reducible exact Pick.nil) | ((with_reducible apply Pick.cons); · (repeat (first | exact Rem.head | apply Rem.tail)))))) (fun t hL hS => ?_)
  refine po_storeSt hS hL rfl rfl (by repeat (first | exact Rem.head | apply Rem.tail)) rfl ⟨rfl, rfl⟩ (of_decide_eq_true rfl) rfl (by (repeat (first | (with_reducible exact Pick.nil) | ((with_reducible apply Pick.cons); · (repeat (first | exact Rem.head | apply Rem.tail)))))) (fun t hL hS => ?_)
  refine gor hL ?_; (repeat (clear hL; intro t hL; refine gor hL ?_))
  exact ⟨fun _ h => (by cases h), hL.pk⟩
theorem ldv6 {cells : List AV} (h : cells.length = 6) : ldv true 6 (cells.drop 0) = some (.agg cells) := by
  unfold ldv
  rw [← h]
  simp
theorem DCalls.mono {P : Program} {G : Glob} {g : FuncId} {xs : List AV} {u : Option AV} {st : St} {R R' : St → Prop} (h : DCalls P G g xs u st R) (k : ∀ t, R t → R' t) : DCalls P G g xs u st R' :=
  ⟨h.1, fun M w vals hW hA um hum => (h.2 M w vals hW hA um hum).mono fun _ _ _ ⟨v, st', M', h1, h2, h3, h4, h5⟩ => ⟨v, st', M', h1, h2, h3, h4, k _ h5⟩⟩
theorem Lay.up {st t u : St} {L : List Item} (h : Lay st L t) (k : t.le u) : Lay st L u := ⟨h.le.trans k, fun x hx => Item.ok_le k (h.ok x hx), h.new, h.apart⟩
theorem lexGo_bad {s : ByteArray} : ∀ {f i : Nat} {out : List LTok} {p : Nat} {e : Int}, lexGo s f i out = .bad p e → e ≠ 0
  | 0, _, _, _, _, h => by cases h
  | f + 1, i, out, p, e, h => by
    rw [lexGo] at h
    split at h
    rotate_left
    · cases h
    split at h
    · exact lexGo_bad h
    split at h
    · exact lexGo_bad h
    split at h
    · exact lexGo_bad h
    split at h
    · split at h
      · cases h; decide
      · exact lexGo_bad h
    split at h
    · exact lexGo_bad h
    · cases h; decide
theorem lexM_bad {s : ByteArray} {p : Nat} {e : Int} (h : lexM s = .bad p e) : e ≠ 0 := by
  unfold lexM at h
  split at h
  · cases h; decide
  cases ho : lexGo s (s.size + 1) 0 [] with
  | ok out => rw [ho] at h; cases h
  | bad p' e' => rw [ho] at h; cases h; exact lexGo_bad ho
/-- What comes of it, as a value. -/
def parseA (x : TB × Int × Int) : AV := .tup [x.1.av, i64 x.2.1, i64 x.2.2]
theorem C19 (s : ByteArray) (hs : s.size < 2 ^ 40) : Pure (PCalls Tryd.prog GK) 19 [.d (.str s)] (parseA (parseM s)) := by
  intro st
  refine pcalls_of_dfr (F := c19) k19 (items := _) rfl e19 rfl rfl rfl (of_decide_eq_true rfl) ?_
  show pwp _ _ _ _ _ _
  dsimp only [c19]
  refine pstartL ?_
  intro t hL
  generalize hQ : pfin _ _ = Q
  refine gor hL ?_; (repeat (clear hL; intro t hL; refine gor hL ?_))
  (refine gor hL ?_; (repeat (clear hL; intro t hL; refine gor hL ?_))); (with_reducible refine po_allocL hL rfl ?_); clear hL; intro p2 t hL
  (refine gor hL ?_; (repeat (clear hL; intro t hL; refine gor hL ?_))); (with_reducible refine po_allocL hL rfl ?_); clear hL; intro p3 t hL
  (refine gor hL ?_; (repeat (clear hL; intro t hL; refine gor hL ?_))); (with_reducible refine po_allocL hL rfl ?_); clear hL; intro p4 t hL
  refine gor hL ?_; (repeat (clear hL; intro t hL; refine gor hL ?_))
  refine po_callE ((C21 s (by omega) _).may _) ?_
  rintro r st' ⟨e1, rfl⟩
  subst e1
  unfold parseM at hQ
  cases hl : lexM s with
  | bad p e =>
    rw [hl] at hQ
    simp only [lexAV]
    refine gor hL ?_; (repeat (clear hL; intro t hL; refine gor hL ?_))
    have he : e ≠ 0 := lexM_bad hl
    refine gnm ?_; rw [show (e != 0) = true by simpa using he]
    refine gor hL ?_; (repeat (clear hL; intro t hL; refine gor hL ?_))
    refine po_loadSt (H := [.box p3 [i64 p], .box p4 [i64 e]]) (Stb.start _ (fun _ => .undef) t) hL rfl rfl (by repeat (first | exact Rem.head | apply Rem.tail)) (by (repeat (first | (with_reducible exact Pick.nil) | ((with_reducible apply Pick.cons); · (repeat (first | exact Rem.head | apply Rem.tail)))))) rfl (fun hS => ?_)
    refine gor hL ?_; (repeat (clear hL; intro t hL; refine gor hL ?_))
    refine po_loadSt hS hL rfl rfl (by repeat (first | exact Rem.head | apply Rem.tail)) (by (repeat (first | (with_reducible exact Pick.nil) | ((with_reducible apply Pick.cons); · (repeat (first | exact Rem.head | apply Rem.tail)))))) rfl (fun hS => ?_)
    refine gor hL ?_; (repeat (clear hL; intro t hL; refine gor hL ?_))
    refine po_storeSt hS hL rfl rfl (by repeat (first | exact Rem.head | apply Rem.tail)) rfl ⟨rfl, rfl⟩ (of_decide_eq_true rfl) rfl (by (repeat (first | (with_reducible exact Pick.nil) | ((with_reducible apply Pick.cons); · (repeat (first | exact Rem.head | apply Rem.tail)))))) (fun t hL hS => ?_)
    refine po_storeSame (t := t) rfl rfl hL.bk rfl ⟨rfl, rfl⟩ (of_decide_eq_true rfl) rfl (hS.holds hL (by (repeat (first | (with_reducible exact Pick.nil) | ((with_reducible apply Pick.cons); · (repeat (first | exact Rem.head | apply Rem.tail))))))) ?_
    replace hS := hS.past hL (by (repeat (first | (with_reducible exact Pick.nil) | ((with_reducible apply Pick.cons); · (repeat (first | exact Rem.head | apply Rem.tail)))))) t
    refine po_storeSame (t := t) rfl rfl hL.bk rfl ⟨rfl, rfl⟩ (of_decide_eq_true rfl) rfl (hS.holds hL (by (repeat (first | (with_reducible exact Pick.nil) | ((with_reducible apply Pick.cons); · (repeat (first | exact Rem.head | apply Rem.tail))))))) ?_
    refine gor hL ?_; (repeat (clear hL; intro t hL; refine gor hL ?_))
    rw [← hQ]
    exact pfin_weak (pret_three (pres_cellL hL rfl (by repeat (first | exact Rem.head | apply Rem.tail)) rfl) (pres_cellL hL rfl (by repeat (first | exact Rem.head | apply Rem.tail)) rfl) (pres_cellL hL rfl (by repeat (first | exact Rem.head | apply Rem.tail)) rfl)) rfl hL.le
  | ok l =>
    rw [hl] at hQ
    have hT := lexM_toked hl
    simp only [lexAV]
    refine gor hL ?_; (repeat (clear hL; intro t hL; refine gor hL ?_))
    refine po_boxL hL rfl (cells := rdr l 0) rfl rfl ?_
    clear hL; intro pm t hL
    refine gor hL ?_; (repeat (clear hL; intro t hL; refine gor hL ?_))
    obtain ⟨st1, hl1, hl2⟩ := Lay.split (F := [.box pm (rdr l 0)]) (R := [.box p4 [i64 0], .box p3 [i64 0], .box p2 zcells]) hL
    generalize ho : tableM l 0 = o at hQ
    refine ⟨PE.at (fun r => ∃ p e, o = .err p e ∧ r = wrongV p e) st1, 40, [], [.ptr p2 0, .ptr p3 0, .ptr p4 0], rfl, e40, ?_, ?_⟩
    rotate_left
    · rintro r u ⟨⟨p, e, h, rfl⟩, hu⟩
      have hL3 : Lay st [.box p2 zcells, .box p3 [i64 0], .box p4 [i64 0]] u := (hl1.up hu).pick (by (repeat (first | (with_reducible exact Pick.nil) | ((with_reducible apply Pick.cons); · (repeat (first | exact Rem.head | apply Rem.tail))))))
      refine (recSome p2 p3 p4 p e st u hL3).mono fun u' hL => ?_
      have hF : parseM s = (TB.zero, p, e) := by unfold parseM; rw [hl]; simp only [ho, h]
      refine ⟨_, _, st, pret_three (pres_cellL hL rfl (by repeat (first | exact Rem.head | apply Rem.tail)) rfl) (pres_cellL hL rfl (by repeat (first | exact Rem.head | apply Rem.tail)) rfl) (pres_cellL hL rfl (by repeat (first | exact Rem.head | apply Rem.tail)) rfl), .inr rfl, hL.le, rfl, ?_⟩
      rw [hF]; rfl
    dsimp only
    have done : ∀ (s_ : Slots) (t : St) (T : List AV) (p e : Int), s_ 2 = ptrAt p2 → s_ 3 = ptrAt p3 → s_ 4 = ptrAt p4 → Lay st [.box p2 T, .box p3 [i64 p], .box p4 [i64 e]] t → T.length = 6 → AV.agg (T.map AV.weak1) = (parseM s).1.av → (parseM s).2 = (p, e) →
        (∀ id, PEx.ret ≠ .exit id) ∧ DCalls Tryd.prog GK 40 ([].map AV.d ++ [Dat.ptr p2 0, Dat.ptr p3 0, Dat.ptr p4 0].map AV.d) none t (fun u => pend [.cell 2 true 6, .cell 3 false 1, .cell 4 false 1] (fun r st' => st' = st ∧ r = parseA (parseM s)) s_ u) := fun s_ t T p e h2 h3 h4 hL hT hw hx =>
      ⟨fun _ h => (by cases h), (recNone p2 p3 p4 t).mono fun u hu => ⟨_, _, st, pret_three (pres_cellL (hL.up hu) h2 (by repeat (first | exact Rem.head | apply Rem.tail)) (ldv6 hT)) (pres_cellL (hL.up hu) h3 (by repeat (first | exact Rem.head | apply Rem.tail)) rfl) (pres_cellL (hL.up hu) h4 (by repeat (first | exact Rem.head | apply Rem.tail)) rfl), .inr rfl, (hL.up hu).le, rfl, by
        simp only [AV.weak, List.map_cons, List.map_nil, AV.weakA, hw, parseA, hx]; rfl⟩⟩
    generalize hQ2 : (fun (e : PEx) (s' : Slots) (t' : St) => (∀ id, e ≠ .exit id) ∧ DCalls Tryd.prog GK 40 _ none t' _) = Q2
    refine gor hL ?_; (repeat (clear hL; intro t hL; refine gor hL ?_))
    have hc := tableC l pm 0 hT.pos hT.few hT.small hT.ended (fun r => ∃ p e, o = .err p e ∧ r = wrongV p e) st1 (fun p e h => ⟨p, e, ho.symm.trans h, rfl⟩) st1 t (.refl _) hl2
    refine po_callE hc ?_
    clear hL hc
    rintro r t ⟨T, k, hk, rfl, hl3⟩
    have hL := hl1.join hl3
    have ho' : o = .ok T k := ho.symm.trans hk
    have hfit := tableM_fit hT hk
    have hF : parseM s = if T.check ≠ 0 then (TB.zero, (s.size : Int), T.check) else (T, 0, 0) := by unfold parseM; rw [hl]; simp only [ho, ho']
    refine gor hL ?_; (repeat (clear hL; intro t hL; refine gor hL ?_))
    refine po_callE ((C18 T hfit _).may _) ?_
    rintro r st' ⟨e1, rfl⟩
    subst e1
    refine gor hL ?_; (repeat (clear hL; intro t hL; refine gor hL ?_))
    by_cases hc : T.check = 0
    · rw [if_neg (by simpa using hc)] at hF
      refine gnm ?_; rw [show (T.check != 0) = false by simpa using hc]
      refine gor hL ?_; (repeat (clear hL; intro t hL; refine gor hL ?_))
      rw [← hQ2]
      exact done _ t _ 0 0 rfl rfl rfl (hL.pick (by (repeat (first | (with_reducible exact Pick.nil) | ((with_reducible apply Pick.cons); · (repeat (first | exact Rem.head | apply Rem.tail))))))) rfl (by rw [hF]; rfl) (by rw [hF])
    · rw [if_pos hc] at hF
      refine gnm ?_; rw [show (T.check != 0) = true by simpa using hc]
      refine gor hL ?_; (repeat (clear hL; intro t hL; refine gor hL ?_))
      rw [← hQ2]
      exact done _ t _ _ _ rfl rfl rfl (hL.pick (by (repeat (first | (with_reducible exact Pick.nil) | ((with_reducible apply Pick.cons); · (repeat (first | exact Rem.head | apply Rem.tail))))))) rfl (by rw [hF]; rfl) (by rw [hF])
end Go.Pv
