/- Functions of the program, by value. No condition. -/
import Derived.Test.YtdggkhnelmonkaaDoorF4
import Derived.Test.YtdggkhnelmonkaaDoorF3
import Derived.Test.YtdggkhnelmonkaaDoorL5
import Derived.Test.YtdggkhnelmonkaaDoorF10
namespace Go.Pv
open Go.Proofs
set_option maxRecDepth 100000
set_option maxHeartbeats 8000000
theorem PCallsE.mono {P : Program} {G : Glob} {E : PE} {f : FuncId} {xs : List AV} {st : St} {R R' : AV → St → Prop} (h : PCallsE P G E f xs st R) (hR : ∀ r st', R r st' → R' r st') (hN : f ≠ P.funcs.size) : PCallsE P G E f xs st R' := by
  rcases h with ⟨h1, h2⟩ | ⟨e, _⟩
  · refine .inl ⟨h1, fun M w vals hW hA => (h2 M w vals hW hA).mono ?_⟩
    rintro e w' (⟨v, r, st', M', e1, hW', hr, hF, k⟩ | h)
    · exact .inl ⟨v, r, st', M', e1, hW', hr, hF, hR r st' k⟩
    · exact .inr h
  · exact absurd e hN
/-- In a frame that has more. -/
theorem RC.on {α : Type} {l : List LTok} {pm k : Nat} {f : FuncId} {xs : List AV} {o : PO α} {rv : α → AV} (h : RC l pm k f xs o rv) (hN : decide (f = Tryd.prog.funcs.size) = false) {V : AV → Prop} {st0 st t : St} {R : List Item} (hV : ∀ p e, o = .err p e → V (wrongV p e)) (hle : st0.le st) (hL : Lay st (.box pm (rdr l k) :: R) t) :
    PCallsE Tryd.prog GK (PE.at V st0) f (ptrAt pm :: xs) t (fun r t' => ∃ v k', o = .ok v k' ∧ r = rv v ∧ Lay st (.box pm (rdr l k') :: R) t') := by
  obtain ⟨st1, hA, hB⟩ := Lay.split (F := [.box pm (rdr l k)]) (R := R) hL
  refine (h V st0 hV st1 t (hle.trans hA.le) hB).mono ?_ (of_decide_eq_false hN)
  rintro r t' ⟨v, k', e, e2, hC⟩
  exact ⟨v, k', e, e2, hA.join hC⟩
theorem mayE (l : List LTok) (pm k : Nat) (hk : k < l.length) (hl : l.length < 2 ^ 40) (w : ByteArray) (E : PE) {st t : St} {R : List Item} (hL : Lay st (.box pm (rdr l k) :: R) t) :
    PCallsE Tryd.prog GK E 68 [ptrAt pm, .d (.str w)] t (fun r t' => r = b2 (isM l k w) ∧ Lay st (.box pm (rdr l (if isM l k w = true then k + 1 else k)) :: R) t') := by
  obtain ⟨st1, hA, hB⟩ := Lay.split (F := [.box pm (rdr l k)]) (R := R) hL
  refine PCalls.may E (((mayC l pm k hk hl w).2 st1 t hB).mono ?_)
  rintro r t' ⟨_, e2, hC⟩
  exact ⟨e2, hA.join hC⟩
theorem failE (l : List LTok) (pm k : Nat) (hk : k < l.length) (e : Int) (V : AV → Prop) (st0 : St) (hV : V (wrongV (tokAt l k).pos e)) {st t : St} {R : List Item} (hle : st0.le st) (hL : Lay st (.box pm (rdr l k) :: R) t) :
    PCallsE Tryd.prog GK (PE.at V st0) 71 [ptrAt pm, .d (.int .i64 e)] t (fun _ _ => False) := by
  obtain ⟨st1, hA, hB⟩ := Lay.split (F := [.box pm (rdr l k)]) (R := R) hL
  exact failC l pm k hk e V st0 hV (hle.trans hA.le) hB

/-- (*prompter/parse.reader).kind -/
abbrev c69_2 : PCode :=
 (.region [⟨(.some 10), (.mov (.t 0)), .none⟩,
   ⟨(.some 11), (.callE 71 [(.t 10), (.c (.d (.int .i64 5)))]), .none⟩])
abbrev c69_1 : PCode :=
 (.cond (.t 9)
  c69_2
  .skip)
abbrev c69_8 : PCode :=
 (.seq (.region [⟨(.some 22), (.mov (.t 5)), .none⟩,
   ⟨(.some 23), (.cvt .u8 (.t 22)), .none⟩,
   ⟨(.some 24), (.bld [(.d (.int .u8 0)), (.d (.int .i64 0)), (.full []), (.full [])] [(0, (1, (.t 23)))]), .none⟩,
   ⟨.none, (.store 4 (.t 4) (.t 24)), .none⟩])
 .ret)
abbrev c69_7 : PCode :=
 (.cond (.t 21)
  c69_8
  .skip)
abbrev c69_6 : PCode :=
 (.keep [0, 1, 4, 5, 6, 12, 13, 14] (.seq (.region [⟨(.some 19), (.mov (.t 0)), .none⟩,
   ⟨(.some 20), (.mov (.t 6)), .none⟩,
   ⟨(.some 21), (.callE 68 [(.t 19), (.t 20)]), .none⟩])
 c69_7))
abbrev c69_5 : PCode :=
 (.block 1 (.seq (.region [⟨(.some 16), (.mov (.t 14)), .none⟩,
   ⟨(.some 17), (.iaddr 1 (.t 12) (.t 14)), .none⟩,
   ⟨(.some 18), (.load .false 1 (.t 17) .false), .none⟩,
   ⟨(.some 5), (.mov (.t 16)), .none⟩,
   ⟨(.some 6), (.mov (.t 18)), .none⟩])
 c69_6))
abbrev c69_4 : PCode :=
 (.keep [0, 1, 4, 12, 13, 14] (.block 0 (.loop (.some [14, 0, 1, 4, 12, 13]) (.seq (.region [⟨(.some 15), (.bin .lss (.t 14) (.t 13)), .none⟩])
 (.seq (.cond (.t 15)
  .skip
  (.exit 0))
 (.seq c69_5
 (.region [⟨(.some 25), (.bin .add (.t 14) (.c (.d (.int .i64 1)))), .none⟩,
   ⟨(.some 14), (.mov (.t 25)), .none⟩])))))))
abbrev c69_11 : PCode :=
 (.seq (.region [⟨(.some 29), (.mov (.t 0)), .none⟩,
   ⟨(.some 30), (.callE 78 [(.t 29)]), .none⟩,
   ⟨(.some 31), (.bld [(.d (.int .u8 0)), (.d (.int .i64 0)), (.full []), (.full [])] [(0, (1, (.c (.d (.int .u8 4))))), (1, (1, (.t 30)))]), .none⟩,
   ⟨.none, (.store 4 (.t 4) (.t 31)), .none⟩])
 .ret)
abbrev c69_17 : PCode :=
 (.keep [4, 7] (.seq (.region [⟨(.some 46), (.load .true 4 (.t 7) .false), .none⟩,
   ⟨.none, (.store 4 (.t 4) (.t 46)), .none⟩])
 .ret))
abbrev c69_16 : PCode :=
 (.seq (.region [⟨(.some 40), (.mov (.t 0)), .none⟩,
   ⟨(.some 41), (.mov (.t 1)), .none⟩,
   ⟨(.some 42), (.bin .add (.t 41) (.c (.d (.int .i64 1)))), .none⟩,
   ⟨(.some 43), (.callE 69 [(.t 40), (.t 42)]), .none⟩,
   ⟨(.some 44), (.bsl 4 [(.t 43)]), .none⟩,
   ⟨(.some 45), (.faddr 3 (.t 7)), .none⟩,
   ⟨.none, (.store 1 (.t 45) (.t 44)), .none⟩])
 c69_17)
abbrev c69_15 : PCode :=
 (.keep [0, 1, 4, 7] (.seq (.region [⟨(.some 38), (.mov (.t 0)), .none⟩,
   ⟨(.some 39), (.callE 65 [(.t 38), (.c (.d (.str (bs [111, 102]))))]), .none⟩])
 c69_16))
abbrev c69_14 : PCode :=
 (.seq (.region [⟨(.some 35), (.mov (.t 0)), .none⟩,
   ⟨(.some 36), (.callE 78 [(.t 35)]), .none⟩,
   ⟨(.some 37), (.bld [(.d (.int .u8 0)), (.d (.int .i64 0)), (.full []), (.full [])] [(0, (1, (.c (.d (.int .u8 5))))), (1, (1, (.t 36)))]), .none⟩,
   ⟨(.some 7), (.alloc [(.d (.int .u8 0)), (.d (.int .i64 0)), (.full []), (.full [])]), .none⟩,
   ⟨.none, (.store 4 (.t 7) (.t 37)), .none⟩])
 c69_15)
abbrev c69_20 : PCode :=
 (.seq (.region [⟨(.some 50), (.mov (.t 0)), .none⟩,
   ⟨(.some 51), (.mov (.t 1)), .none⟩,
   ⟨(.some 52), (.callE 79 [(.t 50), (.c (.d (.int .u8 6))), (.t 51)]), .none⟩,
   ⟨.none, (.store 4 (.t 4) (.t 52)), .none⟩])
 .ret)
abbrev c69_23 : PCode :=
 (.seq (.region [⟨(.some 56), (.mov (.t 0)), .none⟩,
   ⟨(.some 57), (.mov (.t 1)), .none⟩,
   ⟨(.some 58), (.callE 79 [(.t 56), (.c (.d (.int .u8 7))), (.t 57)]), .none⟩,
   ⟨.none, (.store 4 (.t 4) (.t 58)), .none⟩])
 .ret)
abbrev c69_26 : PCode :=
 (.seq (.region [⟨(.some 62), (.mov (.t 0)), .none⟩,
   ⟨(.some 63), (.mov (.t 1)), .none⟩,
   ⟨(.some 64), (.callE 79 [(.t 62), (.c (.d (.int .u8 8))), (.t 63)]), .none⟩,
   ⟨.none, (.store 4 (.t 4) (.t 64)), .none⟩])
 .ret)
abbrev c69_25 : PCode :=
 (.cond (.t 59)
  c69_26
  .skip)
abbrev c69_24 : PCode :=
 (.seq (.region [⟨(.some 60), (.mov (.t 0)), .none⟩,
   ⟨(.some 61), (.callE 68 [(.t 60), (.c (.d (.str (bs [99, 104, 111, 105, 99, 101]))))]), .none⟩,
   ⟨(.some 59), (.mov (.t 61)), .none⟩])
 c69_25)
abbrev c69_22 : PCode :=
 (.cond (.t 53)
  c69_23
  c69_24)
abbrev c69_21 : PCode :=
 (.seq (.region [⟨(.some 54), (.mov (.t 0)), .none⟩,
   ⟨(.some 55), (.callE 68 [(.t 54), (.c (.d (.str (bs [101, 110, 117, 109]))))]), .none⟩,
   ⟨(.some 53), (.mov (.t 55)), .none⟩])
 c69_22)
abbrev c69_19 : PCode :=
 (.cond (.t 47)
  c69_20
  c69_21)
abbrev c69_18 : PCode :=
 (.seq (.region [⟨(.some 48), (.mov (.t 0)), .none⟩,
   ⟨(.some 49), (.callE 68 [(.t 48), (.c (.d (.str (bs [114, 101, 99, 111, 114, 100]))))]), .none⟩,
   ⟨(.some 47), (.mov (.t 49)), .none⟩])
 c69_19)
abbrev c69_13 : PCode :=
 (.cond (.t 32)
  c69_14
  c69_18)
abbrev c69_12 : PCode :=
 (.seq (.region [⟨(.some 33), (.mov (.t 0)), .none⟩,
   ⟨(.some 34), (.callE 68 [(.t 33), (.c (.d (.str (bs [115, 101, 113]))))]), .none⟩,
   ⟨(.some 32), (.mov (.t 34)), .none⟩])
 c69_13)
abbrev c69_10 : PCode :=
 (.cond (.t 26)
  c69_11
  c69_12)
abbrev c69_27 : PCode :=
 (.seq (.region [⟨(.some 65), (.mov (.t 0)), .none⟩,
   ⟨(.some 66), (.callE 66 [(.t 65)]), .none⟩,
   ⟨(.some 67), (.bsl 1 [(.t 66)]), .none⟩,
   ⟨(.some 68), (.bld [(.d (.int .u8 0)), (.d (.int .i64 0)), (.full []), (.full [])] [(0, (1, (.c (.d (.int .u8 9))))), (2, (1, (.t 67)))]), .none⟩,
   ⟨.none, (.store 4 (.t 4) (.t 68)), .none⟩])
 .ret)
abbrev c69_9 : PCode :=
 (.seq (.block 2 (.seq (.region [⟨(.some 27), (.mov (.t 0)), .none⟩,
   ⟨(.some 28), (.callE 68 [(.t 27), (.c (.d (.str (bs [116, 101, 120, 116]))))]), .none⟩,
   ⟨(.some 26), (.mov (.t 28)), .none⟩])
 c69_10))
 c69_27)
abbrev c69_3 : PCode :=
 (.keep [0, 1, 4] (.seq (.seq (.region [⟨(.some 12), (.bsl 1 [(.c (.d (.str (bs [98, 111, 111, 108])))), (.c (.d (.str (bs [99, 97, 114, 100])))), (.c (.d (.str (bs [108, 111, 110, 103])))), (.c (.d (.str (bs [114, 101, 97, 108]))))]), .none⟩,
   ⟨(.some 13), (.len (.t 12)), .none⟩,
   ⟨(.some 14), (.mov (.c (.d (.int .i64 0)))), .none⟩])
 c69_4)
 c69_9))
abbrev c69_0 : PCode :=
 (.seq (.seq (.region [⟨(.some 8), (.mov (.t 1)), .none⟩,
   ⟨(.some 9), (.bin .geq (.t 8) (.c (.d (.int .i64 5)))), .none⟩])
 c69_1)
 c69_3)
def c69 : PFun := ⟨
 (.seq (.region [⟨(.some 4), (.alloc [(.d (.int .u8 0)), (.d (.int .i64 0)), (.full []), (.full [])]), .none⟩])
 c69_0),
 2, 69, [(.cell 4 .true 4)]⟩

theorem e69 : entered Tryd.prog 69 = true := by kernel_rfl
theorem k69 : compFun Tryd.prog (fun _ => 16) 69 = some c69.er := by kernel_rfl

def textM (l : List LTok) (d k : Nat) : PO KT :=
    if isM l k (bs [116, 101, 120, 116]) = true then (lenM l (k + 1)).bind fun n k => .ok (.mk 4 n [] []) k
    else if isM l k (bs [115, 101, 113]) = true then (lenM l (k + 1)).bind fun n k => (mustM l k (bs [111, 102])).bind fun _ k => (kindM l d k).bind fun t k => .ok (.mk 5 n [] [t]) k
    else if isM l k (bs [114, 101, 99, 111, 114, 100]) = true then fieldsM (kindM l d) 6 l (k + 1)
    else if isM l k (bs [101, 110, 117, 109]) = true then fieldsM (kindM l d) 7 l (k + 1)
    else if isM l k (bs [99, 104, 111, 105, 99, 101]) = true then fieldsM (kindM l d) 8 l (k + 1)
    else (nameM l k).bind fun s k => .ok (.mk 9 0 [s] []) k
abbrev word4 : List ByteArray := [bs [98, 111, 111, 108], bs [99, 97, 114, 100], bs [108, 111, 110, 103], bs [114, 101, 97, 108]]
theorem kindM_word {l : List LTok} {d k i : Nat} {w : ByteArray} (hi : i < 4) (hw : word4[i]? = some w) (hI : ∀ j, j < i → isM l k (word4.getD j (bs [])) = false) (hm : isM l k w = true) : kindM l (d + 1) k = .ok (.mk (IntKind.u8.wrap i) 0 [] []) (k + 1) := by
  have e : i = 0 ∨ i = 1 ∨ i = 2 ∨ i = 3 := by omega
  unfold kindM
  rcases e with rfl | rfl | rfl | rfl
  · cases hw
    rw [if_pos hm]; rfl
  · have w0 := hI 0 (by omega)
    cases hw
    simp only [word4, List.getD_cons_zero, List.getD_cons_succ] at w0
    rw [w0, if_neg Bool.false_ne_true, if_pos hm]; rfl
  · have w0 := hI 0 (by omega)
    have w1 := hI 1 (by omega)
    cases hw
    simp only [word4, List.getD_cons_zero, List.getD_cons_succ] at w0 w1
    rw [w0, if_neg Bool.false_ne_true, w1, if_neg Bool.false_ne_true, if_pos hm]; rfl
  · have w0 := hI 0 (by omega)
    have w1 := hI 1 (by omega)
    have w2 := hI 2 (by omega)
    cases hw
    simp only [word4, List.getD_cons_zero, List.getD_cons_succ] at w0 w1 w2
    rw [w0, if_neg Bool.false_ne_true, w1, if_neg Bool.false_ne_true, w2, if_neg Bool.false_ne_true, if_pos hm]; rfl
theorem kindM_rest {l : List LTok} {d k : Nat} (hI : ∀ j, j < 4 → isM l k (word4.getD j (bs [])) = false) : kindM l (d + 1) k = textM l d k := by
  have w0 := hI 0 (by omega)
  have w1 := hI 1 (by omega)
  have w2 := hI 2 (by omega)
  have w3 := hI 3 (by omega)
  simp only [word4, List.getD_cons_zero, List.getD_cons_succ] at w0 w1 w2 w3
  unfold kindM textM
  rw [w0, if_neg Bool.false_ne_true, w1, if_neg Bool.false_ne_true, w2, if_neg Bool.false_ne_true, w3, if_neg Bool.false_ne_true]
theorem kindC (l : List LTok) (pm k d : Nat) (hd : d ≤ 5) (hk : k < l.length) (hl : l.length < 2 ^ 40) (hs : ∀ x ∈ l, x.text.size < 2 ^ 40) (he : Ended l)
    (hin : ∀ d k, k < l.length → POin l (kindM l d k))
    (hK : ∀ d' k, d' + 1 = d → k < l.length → RC l pm k 69 [.d (.int .i64 ((5 - d' : Nat) : Int))] (kindM l d' k) KT.av)
    (hF : ∀ d' k (kk : Int), d' + 1 = d → k < l.length → (kk = 6 ∨ kk = 7 ∨ kk = 8) → RC l pm k 79 [.d (.int .u8 kk), .d (.int .i64 ((5 - d : Nat) : Int))] (fieldsM (kindM l d') kk l k) KT.av) :
    RC l pm k 69 [.d (.int .i64 ((5 - d : Nat) : Int))] (kindM l d k) KT.av := by
  intro V st0 hV st t hle hL
  refine pcalls_of k69 e69 (of_decide_eq_true rfl) ?_; dsimp only [c69]
  generalize hQ : pfin _ _ = Q
  refine gor hL ?_; (repeat (clear hL; intro t hL; refine gor hL ?_))
  (refine gor hL ?_; (repeat (clear hL; intro t hL; refine gor hL ?_))); (with_reducible refine po_allocL hL rfl ?_); clear hL; intro p4 t hL
  refine gor hL ?_; (repeat (clear hL; intro t hL; refine gor hL ?_))
  refine pseqk ?_
  refine gor hL ?_; (repeat (clear hL; intro t hL; refine gor hL ?_))
  cases d with
  | zero =>
    refine pcond_b rfl (fun h0 => ?_) (fun h0 => ?_)
    rotate_left
    · exact absurd h0 (by decide)
    refine gor hL ?_; (repeat (clear hL; intro t hL; refine gor hL ?_))
    refine po_callE (failE l pm k hk 5 V st0 (hV _ _ rfl) hle (hL.pk)) ?_
    intro r st' h
    exact h.elim
  | succ d =>
    refine pcond_b rfl (fun h0 => ?_) (fun h0 => ?_)
    · exact absurd h0 (by simp; omega)
    replace hL : Lay st [.box pm (rdr l k), .box p4 [.d (.int .u8 0), .d (.int .i64 0), .full [], .full []]] _ := hL.pk
    refine gor hL ?_; (repeat (clear hL; intro t hL; refine gor hL ?_))
    refine gnm ?_; rw [show ([[Dat.str (bs [98, 111, 111, 108])], [Dat.str (bs [99, 97, 114, 100])], [Dat.str (bs [108, 111, 110, 103])], [Dat.str (bs [114, 101, 97, 108])]] : List (List Dat)) = word4.map fun s => [Dat.str s] from rfl]
    have h4 : word4.length = 4 := rfl
    refine gnm ?_; rw [List.length_map, h4]
    (apply prangeK hL (4) (by omega) (fun i => ∀ j, j < i → isM l k (word4.getD j (bs [])) = false)); (· exact trimA); (· exact fun _ => rfl)
    · intro j hj; exact absurd hj (by omega)
    · intro t hL hI
      rw [kindM_rest hI] at hV hQ
      clear hI h4
      refine gor hL ?_; (repeat (clear hL; intro t hL; refine gor hL ?_))
      unfold textM at hV hQ
      refine po_callE (mayE l pm k hk hl (bs [116, 101, 120, 116]) _ hL) ?_
      clear hL
      rintro r t ⟨rfl, hL⟩
      cases hm0 : isM l k (bs [116, 101, 120, 116]) with
      | true =>
        rw [hm0] at hL hV hQ
        rw [if_pos rfl] at hL hV hQ
        replace hk := isM_next he hk hm0
        refine gor hL ?_; (repeat (clear hL; intro t hL; refine gor hL ?_))
        refine po_callE ((lenC l pm (k + 1) hk hl hs he).on (by kernel_rfl) (fun p e h => hV p e (PO.err_bind h _)) hle hL) ?_
        clear hL
        rintro r t ⟨n, k1, e1, rfl, hL⟩
        rw [PO.ok_bind e1] at hQ
        refine gor hL ?_; (repeat (clear hL; intro t hL; refine gor hL ?_))
        rw [← hQ]
        exact ⟨_, _, _, pret_one (pres_cell (b := p4) (o := 0) rfl (hL.ok _ List.mem_cons_self) rfl), .inr rfl, .refl _, _, _, rfl, (by rw [KT.av_eq]; rfl), hL.pk⟩
      | false =>
        rw [hm0] at hL hV hQ
        rw [if_neg Bool.false_ne_true] at hL hV hQ
        refine gor hL ?_; (repeat (clear hL; intro t hL; refine gor hL ?_))
        refine po_callE (mayE l pm k hk hl (bs [115, 101, 113]) _ hL) ?_
        clear hL
        rintro r t ⟨rfl, hL⟩
        cases hm1 : isM l k (bs [115, 101, 113]) with
        | true =>
          rw [hm1] at hL hV hQ
          rw [if_pos rfl] at hL hV hQ
          replace hk := isM_next he hk hm1
          refine gor hL ?_; (repeat (clear hL; intro t hL; refine gor hL ?_))
          have h1 := lenM_in he hk
          refine po_callE ((lenC l pm (k + 1) hk hl hs he).on (by kernel_rfl) (fun p e h => hV p e (PO.err_bind h _)) hle hL) ?_
          clear hL
          rintro r t ⟨n, k1, e1, rfl, hL⟩
          replace hk := h1 _ _ e1
          rw [PO.ok_bind e1] at hV hQ
          refine gor hL ?_; (repeat (clear hL; intro t hL; refine gor hL ?_))
          (refine gor hL ?_; (repeat (clear hL; intro t hL; refine gor hL ?_))); (with_reducible refine po_allocL hL rfl ?_); clear hL; intro p7 t hL
          refine gor hL ?_; (repeat (clear hL; intro t hL; refine gor hL ?_))
          replace hL : Lay st [.box pm (rdr l k1), .box p7 [.d (.int .u8 5), .d (.int .i64 n), .full [], .full []], .box p4 [.d (.int .u8 0), .d (.int .i64 0), .full [], .full []]] _ := hL.pk
          have h2 := mustM_in (w := bs [111, 102]) he hk
          refine po_callE ((mustC l pm k1 hk hl (bs [111, 102])).on (by kernel_rfl) (fun p e h => hV p e (PO.err_bind h _)) hle hL) ?_
          clear hL
          rintro r t ⟨_, k2, e2, rfl, hL⟩
          replace hk := h2 _ _ e2
          rw [PO.ok_bind e2] at hV hQ
          refine gor hL ?_; (repeat (clear hL; intro t hL; refine gor hL ?_))
          refine gnm ?_; rw [show IntKind.i64.wrap (((5 - (d + 1) : Nat) : Int) + 1) = ((5 - d : Nat) : Int) from (IntWalk.i64_in _ (by omega)).trans (by omega)]
          refine gor hL ?_; (repeat (clear hL; intro t hL; refine gor hL ?_))
          refine po_callE ((hK d k2 rfl hk).on (by kernel_rfl) (fun p e h => hV p e (PO.err_bind h _)) hle hL) ?_
          clear hL
          rintro r t ⟨v, k3, e3, rfl, hL⟩
          rw [PO.ok_bind e3] at hQ
          refine gnm ?_; rw [KT.av_eq]
          refine gor hL ?_; (repeat (clear hL; intro t hL; refine gor hL ?_))
          rw [← hQ]
          exact ⟨_, _, _, pret_one (pres_cell (b := p4) (o := 0) rfl (hL.ok _ List.mem_cons_self) rfl), .inr rfl, .refl _, _, _, rfl, (by rw [KT.av_eq]; simp only [KT.of, List.map_cons, List.map_nil, KT.row_eq]; rfl), hL.pk⟩
        | false =>
          rw [hm1] at hL hV hQ
          rw [if_neg Bool.false_ne_true] at hL hV hQ
          refine gor hL ?_; (repeat (clear hL; intro t hL; refine gor hL ?_))
          refine po_callE (mayE l pm k hk hl (bs [114, 101, 99, 111, 114, 100]) _ hL) ?_
          clear hL
          rintro r t ⟨rfl, hL⟩
          cases hm2 : isM l k (bs [114, 101, 99, 111, 114, 100]) with
          | true =>
            rw [hm2] at hL hV hQ
            rw [if_pos rfl] at hL hV hQ
            replace hk := isM_next he hk hm2
            refine gor hL ?_; (repeat (clear hL; intro t hL; refine gor hL ?_))
            refine po_callE ((hF d (k + 1) 6 rfl hk (by omega)).on (by kernel_rfl) hV hle hL) ?_
            clear hL
            rintro r t ⟨v, k1, e1, rfl, hL⟩
            rw [e1] at hQ
            refine gnm ?_; rw [KT.av_eq]
            refine gor hL ?_; (repeat (clear hL; intro t hL; refine gor hL ?_))
            rw [← hQ]
            exact ⟨_, _, _, pret_one (pres_cell (b := p4) (o := 0) rfl (hL.ok _ List.mem_cons_self) rfl), .inr rfl, .refl _, _, _, rfl, (by rw [KT.av_eq]; rfl), hL.pk⟩
          | false =>
            rw [hm2] at hL hV hQ
            rw [if_neg Bool.false_ne_true] at hL hV hQ
            refine gor hL ?_; (repeat (clear hL; intro t hL; refine gor hL ?_))
            refine po_callE (mayE l pm k hk hl (bs [101, 110, 117, 109]) _ hL) ?_
            clear hL
            rintro r t ⟨rfl, hL⟩
            cases hm3 : isM l k (bs [101, 110, 117, 109]) with
            | true =>
              rw [hm3] at hL hV hQ
              rw [if_pos rfl] at hL hV hQ
              replace hk := isM_next he hk hm3
              refine gor hL ?_; (repeat (clear hL; intro t hL; refine gor hL ?_))
              refine po_callE ((hF d (k + 1) 7 rfl hk (by omega)).on (by kernel_rfl) hV hle hL) ?_
              clear hL
              rintro r t ⟨v, k1, e1, rfl, hL⟩
              rw [e1] at hQ
              refine gnm ?_; rw [KT.av_eq]
              refine gor hL ?_; (repeat (clear hL; intro t hL; refine gor hL ?_))
              rw [← hQ]
              exact ⟨_, _, _, pret_one (pres_cell (b := p4) (o := 0) rfl (hL.ok _ List.mem_cons_self) rfl), .inr rfl, .refl _, _, _, rfl, (by rw [KT.av_eq]; rfl), hL.pk⟩
            | false =>
              rw [hm3] at hL hV hQ
              rw [if_neg Bool.false_ne_true] at hL hV hQ
              refine gor hL ?_; (repeat (clear hL; intro t hL; refine gor hL ?_))
              refine po_callE (mayE l pm k hk hl (bs [99, 104, 111, 105, 99, 101]) _ hL) ?_
              clear hL
              rintro r t ⟨rfl, hL⟩
              cases hm4 : isM l k (bs [99, 104, 111, 105, 99, 101]) with
              | true =>
                rw [hm4] at hL hV hQ
                rw [if_pos rfl] at hL hV hQ
                replace hk := isM_next he hk hm4
                refine gor hL ?_; (repeat (clear hL; intro t hL; refine gor hL ?_))
                refine po_callE ((hF d (k + 1) 8 rfl hk (by omega)).on (by kernel_rfl) hV hle hL) ?_
                clear hL
                rintro r t ⟨v, k1, e1, rfl, hL⟩
                rw [e1] at hQ
                refine gnm ?_; rw [KT.av_eq]
                refine gor hL ?_; (repeat (clear hL; intro t hL; refine gor hL ?_))
                rw [← hQ]
                exact ⟨_, _, _, pret_one (pres_cell (b := p4) (o := 0) rfl (hL.ok _ List.mem_cons_self) rfl), .inr rfl, .refl _, _, _, rfl, (by rw [KT.av_eq]; rfl), hL.pk⟩
              | false =>
                rw [hm4] at hL hV hQ
                rw [if_neg Bool.false_ne_true] at hL hV hQ
                refine gor hL ?_; (repeat (clear hL; intro t hL; refine gor hL ?_))
                refine po_callE ((nameC l pm k hk hl hs).on (by kernel_rfl) (fun p e h => hV p e (PO.err_bind h _)) hle hL) ?_
                clear hL
                rintro r t ⟨n, k1, e1, rfl, hL⟩
                rw [PO.ok_bind e1] at hQ
                refine gor hL ?_; (repeat (clear hL; intro t hL; refine gor hL ?_))
                rw [← hQ]
                exact ⟨_, _, _, pret_one (pres_cell (b := p4) (o := 0) rfl (hL.ok _ List.mem_cons_self) rfl), .inr rfl, .refl _, _, _, rfl, (by rw [KT.av_eq]; rfl), hL.pk⟩
    · intro i hi t hL hI
      obtain ⟨w, hw, hwm⟩ := elem_at (l := word4) (k := i) hi
      refine pblock ?_
      refine gor hL ?_; (repeat (clear hL; intro t hL; refine gor hL ?_))
      refine po_callE (mayE l pm k hk hl w _ hL) ?_
      clear hL
      rintro r t ⟨rfl, hL⟩
      cases hm : isM l k w with
      | false =>
        rw [hm] at hL
        rw [if_neg Bool.false_ne_true] at hL
        refine gor hL ?_; (repeat (clear hL; intro t hL; refine gor hL ?_))
        refine ⟨hL.pk, ?_, tr2⟩
        intro j hj
        rcases (by omega : j < i ∨ j = i) with hj | rfl
        · exact hI j hj
        · rw [List.getD_eq_getElem?_getD, hw]; exact hm
      | true =>
        rw [hm] at hL
        rw [if_pos rfl] at hL
        rw [kindM_word hi hw hI hm] at hQ
        refine gor hL ?_; (repeat (clear hL; intro t hL; refine gor hL ?_))
        rw [← hQ]
        exact ⟨_, _, _, pret_one (pres_cell (b := p4) (o := 0) rfl (hL.ok _ List.mem_cons_self) rfl), .inr rfl, .refl _, _, _, rfl, (by rw [KT.av_eq]; rfl), hL.pk⟩
end Go.Pv
namespace Go.Pv
open Go.Proofs
set_option maxRecDepth 100000
set_option maxHeartbeats 8000000
/-- (*prompter/parse.reader).proc -/
abbrev c70_13 : PCode :=
 (.region [⟨(.some 35), (.faddr 10 (.t 3)), .none⟩,
   ⟨.none, (.store 1 (.t 35) (.c (.d (.int .u8 1)))), .none⟩])
abbrev c70_15 : PCode :=
 (.region [⟨(.some 28), (.faddr 10 (.t 3)), .none⟩,
   ⟨.none, (.store 1 (.t 28) (.c (.d (.int .u8 2)))), .none⟩])
abbrev c70_14 : PCode :=
 (.seq (.region [⟨(.some 26), (.mov (.t 0)), .none⟩,
   ⟨(.some 27), (.callE 65 [(.t 26), (.c (.d (.str (bs [97, 108, 108]))))]), .none⟩])
 c70_15)
abbrev c70_12 : PCode :=
 (.cond (.t 32)
  c70_13
  c70_14)
abbrev c70_11 : PCode :=
 (.seq (.region [⟨(.some 33), (.mov (.t 0)), .none⟩,
   ⟨(.some 34), (.callE 68 [(.t 33), (.c (.d (.str (bs [109, 97, 106, 111, 114, 105, 116, 121]))))]), .none⟩,
   ⟨(.some 32), (.mov (.t 34)), .none⟩])
 c70_12)
abbrev c70_10 : PCode :=
 (.cond (.t 29)
  .skip
  c70_11)
abbrev c70_19 : PCode :=
 (.seq (.region [⟨(.some 43), (.load .true 12 (.t 3) .false), .none⟩,
   ⟨.none, (.store 12 (.t 2) (.t 43)), .none⟩])
 .ret)
abbrev c70_18 : PCode :=
 (.keep [0, 2, 3] (.seq (.region [⟨(.some 41), (.mov (.t 0)), .none⟩,
   ⟨(.some 42), (.callE 65 [(.t 41), (.c (.d (.str (bs [59]))))]), .none⟩])
 c70_19))
abbrev c70_17 : PCode :=
 (.seq (.region [⟨(.some 38), (.mov (.t 0)), .none⟩,
   ⟨(.some 39), (.callE 67 [(.t 38)]), .none⟩,
   ⟨(.some 40), (.faddr 11 (.t 3)), .none⟩,
   ⟨.none, (.store 1 (.t 40) (.t 39)), .none⟩])
 c70_18)
abbrev c70_16 : PCode :=
 (.keep [0, 2, 3] (.seq (.region [⟨(.some 36), (.mov (.t 0)), .none⟩,
   ⟨(.some 37), (.callE 65 [(.t 36), (.c (.d (.str (bs [116, 105, 109, 101, 111, 117, 116]))))]), .none⟩])
 c70_17))
abbrev c70_9 : PCode :=
 (.seq (.block 0 (.seq (.region [⟨(.some 30), (.mov (.t 0)), .none⟩,
   ⟨(.some 31), (.callE 68 [(.t 30), (.c (.d (.str (bs [102, 105, 114, 115, 116]))))]), .none⟩,
   ⟨(.some 29), (.mov (.t 31)), .none⟩])
 c70_10))
 c70_16)
abbrev c70_8 : PCode :=
 (.keep [0, 2, 3] (.seq (.region [⟨(.some 24), (.mov (.t 0)), .none⟩,
   ⟨(.some 25), (.callE 65 [(.t 24), (.c (.d (.str (bs [99, 111, 108, 108, 97, 116, 101]))))]), .none⟩])
 c70_9))
abbrev c70_7 : PCode :=
 (.seq (.region [⟨(.some 21), (.mov (.t 0)), .none⟩,
   ⟨(.some 22), (.callE 69 [(.t 21), (.c (.d (.int .i64 0)))]), .none⟩,
   ⟨(.some 23), (.faddr 6 (.t 3)), .none⟩,
   ⟨.none, (.store 4 (.t 23) (.t 22)), .none⟩])
 c70_8)
abbrev c70_6 : PCode :=
 (.seq (.region [⟨(.some 19), (.mov (.t 0)), .none⟩,
   ⟨(.some 20), (.callE 65 [(.t 19), (.c (.d (.str (bs [114, 101, 116, 117, 114, 110, 115]))))]), .none⟩])
 c70_7)
abbrev c70_5 : PCode :=
 (.keep [0, 2, 3] (.seq (.region [⟨(.some 17), (.mov (.t 0)), .none⟩,
   ⟨(.some 18), (.callE 65 [(.t 17), (.c (.d (.str (bs [41]))))]), .none⟩])
 c70_6))
abbrev c70_4 : PCode :=
 (.seq (.region [⟨(.some 14), (.mov (.t 0)), .none⟩,
   ⟨(.some 15), (.callE 69 [(.t 14), (.c (.d (.int .i64 0)))]), .none⟩,
   ⟨(.some 16), (.faddr 2 (.t 3)), .none⟩,
   ⟨.none, (.store 4 (.t 16) (.t 15)), .none⟩])
 c70_5)
abbrev c70_3 : PCode :=
 (.keep [0, 2, 3] (.seq (.region [⟨(.some 12), (.mov (.t 0)), .none⟩,
   ⟨(.some 13), (.callE 65 [(.t 12), (.c (.d (.str (bs [40]))))]), .none⟩])
 c70_4))
abbrev c70_2 : PCode :=
 (.seq (.region [⟨(.some 9), (.mov (.t 0)), .none⟩,
   ⟨(.some 10), (.callE 67 [(.t 9)]), .none⟩,
   ⟨(.some 11), (.faddr 1 (.t 3)), .none⟩,
   ⟨.none, (.store 1 (.t 11) (.t 10)), .none⟩])
 c70_3)
abbrev c70_1 : PCode :=
 (.keep [0, 2, 3] (.seq (.region [⟨(.some 7), (.mov (.t 0)), .none⟩,
   ⟨(.some 8), (.callE 65 [(.t 7), (.c (.d (.str (bs [61]))))]), .none⟩])
 c70_2))
abbrev c70_0 : PCode :=
 (.seq (.region [⟨(.some 4), (.mov (.t 0)), .none⟩,
   ⟨(.some 5), (.callE 66 [(.t 4)]), .none⟩,
   ⟨(.some 6), (.bld [(.d (.str (bs []))), (.d (.int .i64 0)), (.d (.int .u8 0)), (.d (.int .i64 0)), (.full []), (.full []), (.d (.int .u8 0)), (.d (.int .i64 0)), (.full []), (.full []), (.d (.int .u8 0)), (.d (.int .i64 0))] [(0, (1, (.t 5)))]), .none⟩,
   ⟨(.some 3), (.alloc [(.d (.str (bs []))), (.d (.int .i64 0)), (.d (.int .u8 0)), (.d (.int .i64 0)), (.full []), (.full []), (.d (.int .u8 0)), (.d (.int .i64 0)), (.full []), (.full []), (.d (.int .u8 0)), (.d (.int .i64 0))]), .none⟩,
   ⟨.none, (.store 12 (.t 3) (.t 6)), .none⟩])
 c70_1)
def c70 : PFun := ⟨
 (.seq (.region [⟨(.some 2), (.alloc [(.d (.str (bs []))), (.d (.int .i64 0)), (.d (.int .u8 0)), (.d (.int .i64 0)), (.full []), (.full []), (.d (.int .u8 0)), (.d (.int .i64 0)), (.full []), (.full []), (.d (.int .u8 0)), (.d (.int .i64 0))]), .none⟩])
 c70_0),
 1, 44, [(.cell 2 .true 12)]⟩

theorem e70 : entered Tryd.prog 70 = true := by kernel_rfl
theorem k70 : compFun Tryd.prog (fun _ => 16) 70 = some c70.er := by kernel_rfl

theorem procC (l : List LTok) (pm k : Nat) (hk : k < l.length) (hl : l.length < 2 ^ 40) (hs : ∀ x ∈ l, x.text.size < 2 ^ 40) (he : Ended l)
    (hin : ∀ k, k < l.length → POin l (kindM l 5 k))
    (hk_ : ∀ k, k < l.length → RC l pm k 69 [.d (.int .i64 0)] (kindM l 5 k) KT.av) :
    RC l pm k 70 [] (procM l k) Pc.av := by
  intro V st0 hV st t hle hL
  refine pcalls_of k70 e70 (of_decide_eq_true rfl) ?_; dsimp only [c70]
  generalize hQ : pfin _ _ = Q
  refine gor hL ?_; (repeat (clear hL; intro t hL; refine gor hL ?_))
  (refine gor hL ?_; (repeat (clear hL; intro t hL; refine gor hL ?_))); (with_reducible refine po_allocL hL rfl ?_); clear hL; intro p2 t hL
  refine gor hL ?_; (repeat (clear hL; intro t hL; refine gor hL ?_))
  unfold procM at hV hQ
  have h1 := nameM_in he hk
  refine po_callE ((nameC l pm k hk hl hs).on (by kernel_rfl) (fun p e h => hV p e (PO.err_bind h _)) hle (show Lay st [.box pm (rdr l k), .box p2 _] _ from hL.pk)) ?_
  clear hL
  rintro r t ⟨s, k1, e1, rfl, hL⟩
  replace hk := h1 _ _ e1
  rw [PO.ok_bind e1] at hV hQ
  refine gor hL ?_; (repeat (clear hL; intro t hL; refine gor hL ?_))
  (refine gor hL ?_; (repeat (clear hL; intro t hL; refine gor hL ?_))); (with_reducible refine po_allocL hL rfl ?_); clear hL; intro p3 t hL
  refine gor hL ?_; (repeat (clear hL; intro t hL; refine gor hL ?_))
  have h2 := mustM_in (w := bs [61]) he hk
  refine po_callE ((mustC l pm k1 hk hl (bs [61])).on (by kernel_rfl) (fun p e h => hV p e (PO.err_bind h _)) hle (show Lay st [.box pm (rdr l k1), .box p3 _, .box p2 _] _ from hL.pk)) ?_
  clear hL
  rintro r t ⟨_, k2, e2, rfl, hL⟩
  replace hk := h2 _ _ e2
  rw [PO.ok_bind e2] at hV hQ
  refine gor hL ?_; (repeat (clear hL; intro t hL; refine gor hL ?_))
  have h3 := numM_in he hk
  refine po_callE ((numC l pm k2 hk hl hs).on (by kernel_rfl) (fun p e h => hV p e (PO.err_bind h _)) hle (show Lay st [.box pm (rdr l k2), .box p3 _, .box p2 _] _ from hL.pk)) ?_
  clear hL
  rintro r t ⟨n, k3, e3, rfl, hL⟩
  replace hk := h3 _ _ e3
  rw [PO.ok_bind e3] at hV hQ
  refine gor hL ?_; (repeat (clear hL; intro t hL; refine gor hL ?_))
  have h4 := mustM_in (w := bs [40]) he hk
  refine po_callE ((mustC l pm k3 hk hl (bs [40])).on (by kernel_rfl) (fun p e h => hV p e (PO.err_bind h _)) hle (show Lay st [.box pm (rdr l k3), .box p3 _, .box p2 _] _ from hL.pk)) ?_
  clear hL
  rintro r t ⟨_, k4, e4, rfl, hL⟩
  replace hk := h4 _ _ e4
  rw [PO.ok_bind e4] at hV hQ
  refine gor hL ?_; (repeat (clear hL; intro t hL; refine gor hL ?_))
  have h5 := hin k4 hk
  refine po_callE ((hk_ k4 hk).on (by kernel_rfl) (fun p e h => hV p e (PO.err_bind h _)) hle (show Lay st [.box pm (rdr l k4), .box p3 _, .box p2 _] _ from hL.pk)) ?_
  clear hL
  rintro r t ⟨t1, k5, e5, rfl, hL⟩
  replace hk := h5 _ _ e5
  rw [PO.ok_bind e5] at hV hQ
  refine gnm ?_; rw [KT.av_eq]
  refine gor hL ?_; (repeat (clear hL; intro t hL; refine gor hL ?_))
  have h6 := mustM_in (w := bs [41]) he hk
  refine po_callE ((mustC l pm k5 hk hl (bs [41])).on (by kernel_rfl) (fun p e h => hV p e (PO.err_bind h _)) hle (show Lay st [.box pm (rdr l k5), .box p3 _, .box p2 _] _ from hL.pk)) ?_
  clear hL
  rintro r t ⟨_, k6, e6, rfl, hL⟩
  replace hk := h6 _ _ e6
  rw [PO.ok_bind e6] at hV hQ
  refine gor hL ?_; (repeat (clear hL; intro t hL; refine gor hL ?_))
  have h7 := mustM_in (w := bs [114, 101, 116, 117, 114, 110, 115]) he hk
  refine po_callE ((mustC l pm k6 hk hl (bs [114, 101, 116, 117, 114, 110, 115])).on (by kernel_rfl) (fun p e h => hV p e (PO.err_bind h _)) hle (show Lay st [.box pm (rdr l k6), .box p3 _, .box p2 _] _ from hL.pk)) ?_
  clear hL
  rintro r t ⟨_, k7, e7, rfl, hL⟩
  replace hk := h7 _ _ e7
  rw [PO.ok_bind e7] at hV hQ
  refine gor hL ?_; (repeat (clear hL; intro t hL; refine gor hL ?_))
  have h8 := hin k7 hk
  refine po_callE ((hk_ k7 hk).on (by kernel_rfl) (fun p e h => hV p e (PO.err_bind h _)) hle (show Lay st [.box pm (rdr l k7), .box p3 _, .box p2 _] _ from hL.pk)) ?_
  clear hL
  rintro r t ⟨t2, k8, e8, rfl, hL⟩
  replace hk := h8 _ _ e8
  rw [PO.ok_bind e8] at hV hQ
  refine gnm ?_; rw [KT.av_eq]
  refine gor hL ?_; (repeat (clear hL; intro t hL; refine gor hL ?_))
  have h9 := mustM_in (w := bs [99, 111, 108, 108, 97, 116, 101]) he hk
  refine po_callE ((mustC l pm k8 hk hl (bs [99, 111, 108, 108, 97, 116, 101])).on (by kernel_rfl) (fun p e h => hV p e (PO.err_bind h _)) hle (show Lay st [.box pm (rdr l k8), .box p3 _, .box p2 _] _ from hL.pk)) ?_
  clear hL
  rintro r t ⟨_, k9, e9, rfl, hL⟩
  replace hk := h9 _ _ e9
  rw [PO.ok_bind e9] at hV hQ
  refine gor hL ?_; (repeat (clear hL; intro t hL; refine gor hL ?_))
  refine pseqk ?_
  refine gor hL ?_; (repeat (clear hL; intro t hL; refine gor hL ?_))
  refine po_callE (mayE l pm k9 hk hl (bs [102, 105, 114, 115, 116]) _ (show Lay st [.box pm (rdr l k9), .box p3 _, .box p2 _] _ from hL.pk)) ?_
  clear hL
  rintro r t ⟨rfl, hL⟩
  cases m0 : isM l k9 (bs [102, 105, 114, 115, 116]) with
  | true =>
    rw [m0] at hL
    rw [if_pos rfl] at hL
    have ec : colM l k9 = .ok 0 (k9 + 1) := by rw [colM, if_pos m0]
    replace hk := isM_next he hk m0
    rw [PO.ok_bind ec] at hV hQ
    refine gor hL ?_; (repeat (clear hL; intro t hL; refine gor hL ?_))
    unfold procEnd at hV hQ
    have h21 := mustM_in (w := bs [116, 105, 109, 101, 111, 117, 116]) he hk
    refine po_callE ((mustC l pm (k9 + 1) hk hl (bs [116, 105, 109, 101, 111, 117, 116])).on (by kernel_rfl) (fun p e h => hV p e (PO.err_bind h _)) hle (show Lay st [.box pm (rdr l (k9 + 1)), .box p3 _, .box p2 _] _ from hL.pk)) ?_
    clear hL
    rintro r t ⟨_, k21, e21, rfl, hL⟩
    replace hk := h21 _ _ e21
    rw [PO.ok_bind e21] at hV hQ
    refine gor hL ?_; (repeat (clear hL; intro t hL; refine gor hL ?_))
    have h22 := numM_in he hk
    refine po_callE ((numC l pm k21 hk hl hs).on (by kernel_rfl) (fun p e h => hV p e (PO.err_bind h _)) hle (show Lay st [.box pm (rdr l k21), .box p3 _, .box p2 _] _ from hL.pk)) ?_
    clear hL
    rintro r t ⟨n22, k22, e22, rfl, hL⟩
    replace hk := h22 _ _ e22
    rw [PO.ok_bind e22] at hV hQ
    refine gor hL ?_; (repeat (clear hL; intro t hL; refine gor hL ?_))
    have h23 := mustM_in (w := bs [59]) he hk
    refine po_callE ((mustC l pm k22 hk hl (bs [59])).on (by kernel_rfl) (fun p e h => hV p e (PO.err_bind h _)) hle (show Lay st [.box pm (rdr l k22), .box p3 _, .box p2 _] _ from hL.pk)) ?_
    clear hL
    rintro r t ⟨_, k23, e23, rfl, hL⟩
    replace hk := h23 _ _ e23
    rw [PO.ok_bind e23] at hV hQ
    refine gor hL ?_; (repeat (clear hL; intro t hL; refine gor hL ?_))
    rw [← hQ]
    exact ⟨_, _, _, pret_one (pres_cell (b := p2) (o := 0) rfl (hL.ok _ List.mem_cons_self) rfl), .inr rfl, .refl _, _, _, rfl, rfl, hL.pk⟩
  | false =>
    rw [m0] at hL
    rw [if_neg Bool.false_ne_true] at hL
    refine gor hL ?_; (repeat (clear hL; intro t hL; refine gor hL ?_))
    refine po_callE (mayE l pm k9 hk hl (bs [109, 97, 106, 111, 114, 105, 116, 121]) _ (show Lay st [.box pm (rdr l k9), .box p3 _, .box p2 _] _ from hL.pk)) ?_
    clear hL
    rintro r t ⟨rfl, hL⟩
    cases m1 : isM l k9 (bs [109, 97, 106, 111, 114, 105, 116, 121]) with
    | true =>
      rw [m1] at hL
      rw [if_pos rfl] at hL
      have ec : colM l k9 = .ok 1 (k9 + 1) := by rw [colM, m0, if_neg Bool.false_ne_true, if_pos m1]
      replace hk := isM_next he hk m1
      rw [PO.ok_bind ec] at hV hQ
      refine gor hL ?_; (repeat (clear hL; intro t hL; refine gor hL ?_))
      unfold procEnd at hV hQ
      have h21 := mustM_in (w := bs [116, 105, 109, 101, 111, 117, 116]) he hk
      refine po_callE ((mustC l pm (k9 + 1) hk hl (bs [116, 105, 109, 101, 111, 117, 116])).on (by kernel_rfl) (fun p e h => hV p e (PO.err_bind h _)) hle (show Lay st [.box pm (rdr l (k9 + 1)), .box p3 _, .box p2 _] _ from hL.pk)) ?_
      clear hL
      rintro r t ⟨_, k21, e21, rfl, hL⟩
      replace hk := h21 _ _ e21
      rw [PO.ok_bind e21] at hV hQ
      refine gor hL ?_; (repeat (clear hL; intro t hL; refine gor hL ?_))
      have h22 := numM_in he hk
      refine po_callE ((numC l pm k21 hk hl hs).on (by kernel_rfl) (fun p e h => hV p e (PO.err_bind h _)) hle (show Lay st [.box pm (rdr l k21), .box p3 _, .box p2 _] _ from hL.pk)) ?_
      clear hL
      rintro r t ⟨n22, k22, e22, rfl, hL⟩
      replace hk := h22 _ _ e22
      rw [PO.ok_bind e22] at hV hQ
      refine gor hL ?_; (repeat (clear hL; intro t hL; refine gor hL ?_))
      have h23 := mustM_in (w := bs [59]) he hk
      refine po_callE ((mustC l pm k22 hk hl (bs [59])).on (by kernel_rfl) (fun p e h => hV p e (PO.err_bind h _)) hle (show Lay st [.box pm (rdr l k22), .box p3 _, .box p2 _] _ from hL.pk)) ?_
      clear hL
      rintro r t ⟨_, k23, e23, rfl, hL⟩
      replace hk := h23 _ _ e23
      rw [PO.ok_bind e23] at hV hQ
      refine gor hL ?_; (repeat (clear hL; intro t hL; refine gor hL ?_))
      rw [← hQ]
      exact ⟨_, _, _, pret_one (pres_cell (b := p2) (o := 0) rfl (hL.ok _ List.mem_cons_self) rfl), .inr rfl, .refl _, _, _, rfl, rfl, hL.pk⟩
    | false =>
      rw [m1] at hL
      rw [if_neg Bool.false_ne_true] at hL
      refine gor hL ?_; (repeat (clear hL; intro t hL; refine gor hL ?_))
      have ec0 : colM l k9 = (mustM l k9 (bs [97, 108, 108])).bind fun _ k => .ok 2 k := by rw [colM, m0, if_neg Bool.false_ne_true, m1, if_neg Bool.false_ne_true]
      have h10 := mustM_in (w := bs [97, 108, 108]) he hk
      refine po_callE ((mustC l pm k9 hk hl (bs [97, 108, 108])).on (by kernel_rfl) (fun p e h => hV p e (PO.err_bind (ec0.trans (PO.err_bind h _)) _)) hle (show Lay st [.box pm (rdr l k9), .box p3 _, .box p2 _] _ from hL.pk)) ?_
      clear hL
      rintro r t ⟨_, k10, e10, rfl, hL⟩
      replace hk := h10 _ _ e10
      rw [PO.ok_bind (ec0.trans (PO.ok_bind e10 _))] at hV hQ
      refine gor hL ?_; (repeat (clear hL; intro t hL; refine gor hL ?_))
      unfold procEnd at hV hQ
      have h21 := mustM_in (w := bs [116, 105, 109, 101, 111, 117, 116]) he hk
      refine po_callE ((mustC l pm k10 hk hl (bs [116, 105, 109, 101, 111, 117, 116])).on (by kernel_rfl) (fun p e h => hV p e (PO.err_bind h _)) hle (show Lay st [.box pm (rdr l k10), .box p3 _, .box p2 _] _ from hL.pk)) ?_
      clear hL
      rintro r t ⟨_, k21, e21, rfl, hL⟩
      replace hk := h21 _ _ e21
      rw [PO.ok_bind e21] at hV hQ
      refine gor hL ?_; (repeat (clear hL; intro t hL; refine gor hL ?_))
      have h22 := numM_in he hk
      refine po_callE ((numC l pm k21 hk hl hs).on (by kernel_rfl) (fun p e h => hV p e (PO.err_bind h _)) hle (show Lay st [.box pm (rdr l k21), .box p3 _, .box p2 _] _ from hL.pk)) ?_
      clear hL
      rintro r t ⟨n22, k22, e22, rfl, hL⟩
      replace hk := h22 _ _ e22
      rw [PO.ok_bind e22] at hV hQ
      refine gor hL ?_; (repeat (clear hL; intro t hL; refine gor hL ?_))
      have h23 := mustM_in (w := bs [59]) he hk
      refine po_callE ((mustC l pm k22 hk hl (bs [59])).on (by kernel_rfl) (fun p e h => hV p e (PO.err_bind h _)) hle (show Lay st [.box pm (rdr l k22), .box p3 _, .box p2 _] _ from hL.pk)) ?_
      clear hL
      rintro r t ⟨_, k23, e23, rfl, hL⟩
      replace hk := h23 _ _ e23
      rw [PO.ok_bind e23] at hV hQ
      refine gor hL ?_; (repeat (clear hL; intro t hL; refine gor hL ?_))
      rw [← hQ]
      exact ⟨_, _, _, pret_one (pres_cell (b := p2) (o := 0) rfl (hL.ok _ List.mem_cons_self) rfl), .inr rfl, .refl _, _, _, rfl, rfl, hL.pk⟩
end Go.Pv
