/- Functions of the program, by value. No condition. -/
import Derived.Test.YtdggkhnelmonkaaDoorF8
import Derived.Test.YtdggkhnelmonkaaDoorF10
namespace Go.Pv
open Go.Proofs
set_option maxRecDepth 100000
set_option maxHeartbeats 8000000
/-- (*prompter/parse.reader).proc -/
abbrev c70_13 : PCode :=
 (.region [⟨(.some 35), (.faddr 10 (.t 3)), .none⟩,
   ⟨.none, (.store 1 (.t 35) (.c (.d (.int .u8 1)))), .none⟩])
abbrev c70_15 : PCode :=
 (.region [⟨(.some 28), (.faddr 10 (.t 3)), .none⟩,
   ⟨.none, (.store 1 (.t 28) (.c (.d (.int .u8 2)))), .none⟩])
abbrev c70_14 : PCode :=
 (.seq (.region [⟨(.some 26), (.mov (.t 0)), .none⟩,
   ⟨(.some 27), (.callE 65 [(.t 26), (.c (.d (.str (bs [97, 108, 108]))))]), .none⟩])
 c70_15)
abbrev c70_12 : PCode :=
 (.cond (.t 32)
  c70_13
  c70_14)
abbrev c70_11 : PCode :=
 (.seq (.region [⟨(.some 33), (.mov (.t 0)), .none⟩,
   ⟨(.some 34), (.callE 68 [(.t 33), (.c (.d (.str (bs [109, 97, 106, 111, 114, 105, 116, 121]))))]), .none⟩,
   ⟨(.some 32), (.mov (.t 34)), .none⟩])
 c70_12)
abbrev c70_10 : PCode :=
 (.cond (.t 29)
  .skip
  c70_11)
abbrev c70_19 : PCode :=
 (.seq (.region [⟨(.some 43), (.load .true 12 (.t 3) .false), .none⟩,
   ⟨.none, (.store 12 (.t 2) (.t 43)), .none⟩])
 .ret)
abbrev c70_18 : PCode :=
 (.keep [0, 2, 3] (.seq (.region [⟨(.some 41), (.mov (.t 0)), .none⟩,
   ⟨(.some 42), (.callE 65 [(.t 41), (.c (.d (.str (bs [59]))))]), .none⟩])
 c70_19))
abbrev c70_17 : PCode :=
 (.seq (.region [⟨(.some 38), (.mov (.t 0)), .none⟩,
   ⟨(.some 39), (.callE 67 [(.t 38)]), .none⟩,
   ⟨(.some 40), (.faddr 11 (.t 3)), .none⟩,
   ⟨.none, (.store 1 (.t 40) (.t 39)), .none⟩])
 c70_18)
abbrev c70_16 : PCode :=
 (.keep [0, 2, 3] (.seq (.region [⟨(.some 36), (.mov (.t 0)), .none⟩,
   ⟨(.some 37), (.callE 65 [(.t 36), (.c (.d (.str (bs [116, 105, 109, 101, 111, 117, 116]))))]), .none⟩])
 c70_17))
abbrev c70_9 : PCode :=
 (.seq (.block 0 (.seq (.region [⟨(.some 30), (.mov (.t 0)), .none⟩,
   ⟨(.some 31), (.callE 68 [(.t 30), (.c (.d (.str (bs [102, 105, 114, 115, 116]))))]), .none⟩,
   ⟨(.some 29), (.mov (.t 31)), .none⟩])
 c70_10))
 c70_16)
abbrev c70_8 : PCode :=
 (.keep [0, 2, 3] (.seq (.region [⟨(.some 24), (.mov (.t 0)), .none⟩,
   ⟨(.some 25), (.callE 65 [(.t 24), (.c (.d (.str (bs [99, 111, 108, 108, 97, 116, 101]))))]), .none⟩])
 c70_9))
abbrev c70_7 : PCode :=
 (.seq (.region [⟨(.some 21), (.mov (.t 0)), .none⟩,
   ⟨(.some 22), (.callE 69 [(.t 21), (.c (.d (.int .i64 0)))]), .none⟩,
   ⟨(.some 23), (.faddr 6 (.t 3)), .none⟩,
   ⟨.none, (.store 4 (.t 23) (.t 22)), .none⟩])
 c70_8)
abbrev c70_6 : PCode :=
 (.seq (.region [⟨(.some 19), (.mov (.t 0)), .none⟩,
   ⟨(.some 20), (.callE 65 [(.t 19), (.c (.d (.str (bs [114, 101, 116, 117, 114, 110, 115]))))]), .none⟩])
 c70_7)
abbrev c70_5 : PCode :=
 (.keep [0, 2, 3] (.seq (.region [⟨(.some 17), (.mov (.t 0)), .none⟩,
   ⟨(.some 18), (.callE 65 [(.t 17), (.c (.d (.str (bs [41]))))]), .none⟩])
 c70_6))
abbrev c70_4 : PCode :=
 (.seq (.region [⟨(.some 14), (.mov (.t 0)), .none⟩,
   ⟨(.some 15), (.callE 69 [(.t 14), (.c (.d (.int .i64 0)))]), .none⟩,
   ⟨(.some 16), (.faddr 2 (.t 3)), .none⟩,
   ⟨.none, (.store 4 (.t 16) (.t 15)), .none⟩])
 c70_5)
abbrev c70_3 : PCode :=
 (.keep [0, 2, 3] (.seq (.region [⟨(.some 12), (.mov (.t 0)), .none⟩,
   ⟨(.some 13), (.callE 65 [(.t 12), (.c (.d (.str (bs [40]))))]), .none⟩])
 c70_4))
abbrev c70_2 : PCode :=
 (.seq (.region [⟨(.some 9), (.mov (.t 0)), .none⟩,
   ⟨(.some 10), (.callE 67 [(.t 9)]), .none⟩,
   ⟨(.some 11), (.faddr 1 (.t 3)), .none⟩,
   ⟨.none, (.store 1 (.t 11) (.t 10)), .none⟩])
 c70_3)
abbrev c70_1 : PCode :=
 (.keep [0, 2, 3] (.seq (.region [⟨(.some 7), (.mov (.t 0)), .none⟩,
   ⟨(.some 8), (.callE 65 [(.t 7), (.c (.d (.str (bs [61]))))]), .none⟩])
 c70_2))
abbrev c70_0 : PCode :=
 (.seq (.region [⟨(.some 4), (.mov (.t 0)), .none⟩,
   ⟨(.some 5), (.callE 66 [(.t 4)]), .none⟩,
   ⟨(.some 6), (.bld [(.d (.str (bs []))), (.d (.int .i64 0)), (.d (.int .u8 0)), (.d (.int .i64 0)), (.full []), (.full []), (.d (.int .u8 0)), (.d (.int .i64 0)), (.full []), (.full []), (.d (.int .u8 0)), (.d (.int .i64 0))] [(0, (1, (.t 5)))]), .none⟩,
   ⟨(.some 3), (.alloc [(.d (.str (bs []))), (.d (.int .i64 0)), (.d (.int .u8 0)), (.d (.int .i64 0)), (.full []), (.full []), (.d (.int .u8 0)), (.d (.int .i64 0)), (.full []), (.full []), (.d (.int .u8 0)), (.d (.int .i64 0))]), .none⟩,
   ⟨.none, (.store 12 (.t 3) (.t 6)), .none⟩])
 c70_1)
def c70 : PFun := ⟨
 (.seq (.region [⟨(.some 2), (.alloc [(.d (.str (bs []))), (.d (.int .i64 0)), (.d (.int .u8 0)), (.d (.int .i64 0)), (.full []), (.full []), (.d (.int .u8 0)), (.d (.int .i64 0)), (.full []), (.full []), (.d (.int .u8 0)), (.d (.int .i64 0))]), .none⟩])
 c70_0),
 1, 44, [(.cell 2 .true 12)]⟩

theorem e70 : entered Tryd.prog 70 = true := by kernel_rfl
theorem k70 : compFun Tryd.prog (fun _ => 16) 70 = some c70.er := by kernel_rfl

theorem procC (l : List LTok) (pm k : Nat) (hk : k < l.length) (hl : l.length < 2 ^ 40) (hs : ∀ x ∈ l, x.text.size < 2 ^ 40) (he : Ended l)
    (hin : ∀ k, k < l.length → POin l (kindM l 5 k))
    (hk_ : ∀ k, k < l.length → RC l pm k 69 [.d (.int .i64 0)] (kindM l 5 k) KT.av) :
    RC l pm k 70 [] (procM l k) Pc.av := by
  intro V st0 hV st t hle hL
  refine pcalls_of k70 e70 (of_decide_eq_true rfl) ?_; dsimp only [c70]
  generalize hQ : pfin _ _ = Q
  refine gor hL ?_; (repeat (clear hL; intro t hL; refine gor hL ?_))
  (refine gor hL ?_; (repeat (clear hL; intro t hL; refine gor hL ?_))); (with_reducible refine po_allocL hL rfl ?_); clear hL; intro p2 t hL
  refine gor hL ?_; (repeat (clear hL; intro t hL; refine gor hL ?_))
  unfold procM at hV hQ
  have h1 := nameM_in he hk
  refine po_callE ((nameC l pm k hk hl hs).on (by kernel_rfl) (fun p e h => hV p e (PO.err_bind h _)) hle (show Lay st [.box pm (rdr l k), .box p2 _] _ from hL.pk)) ?_
  clear hL
  rintro r t ⟨s, k1, e1, rfl, hL⟩
  replace hk := h1 _ _ e1
  rw [PO.ok_bind e1] at hV hQ
  refine gor hL ?_; (repeat (clear hL; intro t hL; refine gor hL ?_))
  (refine gor hL ?_; (repeat (clear hL; intro t hL; refine gor hL ?_))); (with_reducible refine po_allocL hL rfl ?_); clear hL; intro p3 t hL
  refine gor hL ?_; (repeat (clear hL; intro t hL; refine gor hL ?_))
  have h2 := mustM_in (w := bs [61]) he hk
  refine po_callE ((mustC l pm k1 hk hl (bs [61])).on (by kernel_rfl) (fun p e h => hV p e (PO.err_bind h _)) hle (show Lay st [.box pm (rdr l k1), .box p3 _, .box p2 _] _ from hL.pk)) ?_
  clear hL
  rintro r t ⟨_, k2, e2, rfl, hL⟩
  replace hk := h2 _ _ e2
  rw [PO.ok_bind e2] at hV hQ
  refine gor hL ?_; (repeat (clear hL; intro t hL; refine gor hL ?_))
  have h3 := numM_in he hk
  refine po_callE ((numC l pm k2 hk hl hs).on (by kernel_rfl) (fun p e h => hV p e (PO.err_bind h _)) hle (show Lay st [.box pm (rdr l k2), .box p3 _, .box p2 _] _ from hL.pk)) ?_
  clear hL
  rintro r t ⟨n, k3, e3, rfl, hL⟩
  replace hk := h3 _ _ e3
  rw [PO.ok_bind e3] at hV hQ
  refine gor hL ?_; (repeat (clear hL; intro t hL; refine gor hL ?_))
  have h4 := mustM_in (w := bs [40]) he hk
  refine po_callE ((mustC l pm k3 hk hl (bs [40])).on (by kernel_rfl) (fun p e h => hV p e (PO.err_bind h _)) hle (show Lay st [.box pm (rdr l k3), .box p3 _, .box p2 _] _ from hL.pk)) ?_
  clear hL
  rintro r t ⟨_, k4, e4, rfl, hL⟩
  replace hk := h4 _ _ e4
  rw [PO.ok_bind e4] at hV hQ
  refine gor hL ?_; (repeat (clear hL; intro t hL; refine gor hL ?_))
  have h5 := hin k4 hk
  refine po_callE ((hk_ k4 hk).on (by kernel_rfl) (fun p e h => hV p e (PO.err_bind h _)) hle (show Lay st [.box pm (rdr l k4), .box p3 _, .box p2 _] _ from hL.pk)) ?_
  clear hL
  rintro r t ⟨t1, k5, e5, rfl, hL⟩
  replace hk := h5 _ _ e5
  rw [PO.ok_bind e5] at hV hQ
  refine gnm ?_; rw [KT.av_eq]
  refine gor hL ?_; (repeat (clear hL; intro t hL; refine gor hL ?_))
  have h6 := mustM_in (w := bs [41]) he hk
  refine po_callE ((mustC l pm k5 hk hl (bs [41])).on (by kernel_rfl) (fun p e h => hV p e (PO.err_bind h _)) hle (show Lay st [.box pm (rdr l k5), .box p3 _, .box p2 _] _ from hL.pk)) ?_
  clear hL
  rintro r t ⟨_, k6, e6, rfl, hL⟩
  replace hk := h6 _ _ e6
  rw [PO.ok_bind e6] at hV hQ
  refine gor hL ?_; (repeat (clear hL; intro t hL; refine gor hL ?_))
  have h7 := mustM_in (w := bs [114, 101, 116, 117, 114, 110, 115]) he hk
  refine po_callE ((mustC l pm k6 hk hl (bs [114, 101, 116, 117, 114, 110, 115])).on (by kernel_rfl) (fun p e h => hV p e (PO.err_bind h _)) hle (show Lay st [.box pm (rdr l k6), .box p3 _, .box p2 _] _ from hL.pk)) ?_
  clear hL
  rintro r t ⟨_, k7, e7, rfl, hL⟩
  replace hk := h7 _ _ e7
  rw [PO.ok_bind e7] at hV hQ
  refine gor hL ?_; (repeat (clear hL; intro t hL; refine gor hL ?_))
  have h8 := hin k7 hk
  refine po_callE ((hk_ k7 hk).on (by kernel_rfl) (fun p e h => hV p e (PO.err_bind h _)) hle (show Lay st [.box pm (rdr l k7), .box p3 _, .box p2 _] _ from hL.pk)) ?_
  clear hL
  rintro r t ⟨t2, k8, e8, rfl, hL⟩
  replace hk := h8 _ _ e8
  rw [PO.ok_bind e8] at hV hQ
  refine gnm ?_; rw [KT.av_eq]
  refine gor hL ?_; (repeat (clear hL; intro t hL; refine gor hL ?_))
  have h9 := mustM_in (w := bs [99, 111, 108, 108, 97, 116, 101]) he hk
  refine po_callE ((mustC l pm k8 hk hl (bs [99, 111, 108, 108, 97, 116, 101])).on (by kernel_rfl) (fun p e h => hV p e (PO.err_bind h _)) hle (show Lay st [.box pm (rdr l k8), .box p3 _, .box p2 _] _ from hL.pk)) ?_
  clear hL
  rintro r t ⟨_, k9, e9, rfl, hL⟩
  replace hk := h9 _ _ e9
  rw [PO.ok_bind e9] at hV hQ
  refine gor hL ?_; (repeat (clear hL; intro t hL; refine gor hL ?_))
  refine pseqk ?_
  refine gor hL ?_; (repeat (clear hL; intro t hL; refine gor hL ?_))
  refine po_callE (mayE l pm k9 hk hl (bs [102, 105, 114, 115, 116]) _ (show Lay st [.box pm (rdr l k9), .box p3 _, .box p2 _] _ from hL.pk)) ?_
  clear hL
  rintro r t ⟨rfl, hL⟩
  cases m0 : isM l k9 (bs [102, 105, 114, 115, 116]) with
  | true =>
    rw [m0] at hL
    rw [if_pos rfl] at hL
    have ec : colM l k9 = .ok 0 (k9 + 1) := by rw [colM, if_pos m0]
    replace hk := isM_next he hk m0
    rw [PO.ok_bind ec] at hV hQ
    refine gor hL ?_; (repeat (clear hL; intro t hL; refine gor hL ?_))
    unfold procEnd at hV hQ
    have h21 := mustM_in (w := bs [116, 105, 109, 101, 111, 117, 116]) he hk
    refine po_callE ((mustC l pm (k9 + 1) hk hl (bs [116, 105, 109, 101, 111, 117, 116])).on (by kernel_rfl) (fun p e h => hV p e (PO.err_bind h _)) hle (show Lay st [.box pm (rdr l (k9 + 1)), .box p3 _, .box p2 _] _ from hL.pk)) ?_
    clear hL
    rintro r t ⟨_, k21, e21, rfl, hL⟩
    replace hk := h21 _ _ e21
    rw [PO.ok_bind e21] at hV hQ
    refine gor hL ?_; (repeat (clear hL; intro t hL; refine gor hL ?_))
    have h22 := numM_in he hk
    refine po_callE ((numC l pm k21 hk hl hs).on (by kernel_rfl) (fun p e h => hV p e (PO.err_bind h _)) hle (show Lay st [.box pm (rdr l k21), .box p3 _, .box p2 _] _ from hL.pk)) ?_
    clear hL
    rintro r t ⟨n22, k22, e22, rfl, hL⟩
    replace hk := h22 _ _ e22
    rw [PO.ok_bind e22] at hV hQ
    refine gor hL ?_; (repeat (clear hL; intro t hL; refine gor hL ?_))
    have h23 := mustM_in (w := bs [59]) he hk
    refine po_callE ((mustC l pm k22 hk hl (bs [59])).on (by kernel_rfl) (fun p e h => hV p e (PO.err_bind h _)) hle (show Lay st [.box pm (rdr l k22), .box p3 _, .box p2 _] _ from hL.pk)) ?_
    clear hL
    rintro r t ⟨_, k23, e23, rfl, hL⟩
    replace hk := h23 _ _ e23
    rw [PO.ok_bind e23] at hV hQ
    refine gor hL ?_; (repeat (clear hL; intro t hL; refine gor hL ?_))
    rw [← hQ]
    exact ⟨_, _, _, pret_one (pres_cell (b := p2) (o := 0) rfl (hL.ok _ List.mem_cons_self) rfl), .inr rfl, .refl _, _, _, rfl, rfl, hL.pk⟩
  | false =>
    rw [m0] at hL
    rw [if_neg Bool.false_ne_true] at hL
    refine gor hL ?_; (repeat (clear hL; intro t hL; refine gor hL ?_))
    refine po_callE (mayE l pm k9 hk hl (bs [109, 97, 106, 111, 114, 105, 116, 121]) _ (show Lay st [.box pm (rdr l k9), .box p3 _, .box p2 _] _ from hL.pk)) ?_
    clear hL
    rintro r t ⟨rfl, hL⟩
    cases m1 : isM l k9 (bs [109, 97, 106, 111, 114, 105, 116, 121]) with
    | true =>
      rw [m1] at hL
      rw [if_pos rfl] at hL
      have ec : colM l k9 = .ok 1 (k9 + 1) := by rw [colM, m0, if_neg Bool.false_ne_true, if_pos m1]
      replace hk := isM_next he hk m1
      rw [PO.ok_bind ec] at hV hQ
      refine gor hL ?_; (repeat (clear hL; intro t hL; refine gor hL ?_))
      unfold procEnd at hV hQ
      have h21 := mustM_in (w := bs [116, 105, 109, 101, 111, 117, 116]) he hk
      refine po_callE ((mustC l pm (k9 + 1) hk hl (bs [116, 105, 109, 101, 111, 117, 116])).on (by kernel_rfl) (fun p e h => hV p e (PO.err_bind h _)) hle (show Lay st [.box pm (rdr l (k9 + 1)), .box p3 _, .box p2 _] _ from hL.pk)) ?_
      clear hL
      rintro r t ⟨_, k21, e21, rfl, hL⟩
      replace hk := h21 _ _ e21
      rw [PO.ok_bind e21] at hV hQ
      refine gor hL ?_; (repeat (clear hL; intro t hL; refine gor hL ?_))
      have h22 := numM_in he hk
      refine po_callE ((numC l pm k21 hk hl hs).on (by kernel_rfl) (fun p e h => hV p e (PO.err_bind h _)) hle (show Lay st [.box pm (rdr l k21), .box p3 _, .box p2 _] _ from hL.pk)) ?_
      clear hL
      rintro r t ⟨n22, k22, e22, rfl, hL⟩
      replace hk := h22 _ _ e22
      rw [PO.ok_bind e22] at hV hQ
      refine gor hL ?_; (repeat (clear hL; intro t hL; refine gor hL ?_))
      have h23 := mustM_in (w := bs [59]) he hk
      refine po_callE ((mustC l pm k22 hk hl (bs [59])).on (by kernel_rfl) (fun p e h => hV p e (PO.err_bind h _)) hle (show Lay st [.box pm (rdr l k22), .box p3 _, .box p2 _] _ from hL.pk)) ?_
      clear hL
      rintro r t ⟨_, k23, e23, rfl, hL⟩
      replace hk := h23 _ _ e23
      rw [PO.ok_bind e23] at hV hQ
      refine gor hL ?_; (repeat (clear hL; intro t hL; refine gor hL ?_))
      rw [← hQ]
      exact ⟨_, _, _, pret_one (pres_cell (b := p2) (o := 0) rfl (hL.ok _ List.mem_cons_self) rfl), .inr rfl, .refl _, _, _, rfl, rfl, hL.pk⟩
    | false =>
      rw [m1] at hL
      rw [if_neg Bool.false_ne_true] at hL
      refine gor hL ?_; (repeat (clear hL; intro t hL; refine gor hL ?_))
      have ec0 : colM l k9 = (mustM l k9 (bs [97, 108, 108])).bind fun _ k => .ok 2 k := by rw [colM, m0, if_neg Bool.false_ne_true, m1, if_neg Bool.false_ne_true]
      have h10 := mustM_in (w := bs [97, 108, 108]) he hk
      refine po_callE ((mustC l pm k9 hk hl (bs [97, 108, 108])).on (by kernel_rfl) (fun p e h => hV p e (PO.err_bind (ec0.trans (PO.err_bind h _)) _)) hle (show Lay st [.box pm (rdr l k9), .box p3 _, .box p2 _] _ from hL.pk)) ?_
      clear hL
      rintro r t ⟨_, k10, e10, rfl, hL⟩
      replace hk := h10 _ _ e10
      rw [PO.ok_bind (ec0.trans (PO.ok_bind e10 _))] at hV hQ
      refine gor hL ?_; (repeat (clear hL; intro t hL; refine gor hL ?_))
      unfold procEnd at hV hQ
      have h21 := mustM_in (w := bs [116, 105, 109, 101, 111, 117, 116]) he hk
      refine po_callE ((mustC l pm k10 hk hl (bs [116, 105, 109, 101, 111, 117, 116])).on (by kernel_rfl) (fun p e h => hV p e (PO.err_bind h _)) hle (show Lay st [.box pm (rdr l k10), .box p3 _, .box p2 _] _ from hL.pk)) ?_
      clear hL
      rintro r t ⟨_, k21, e21, rfl, hL⟩
      replace hk := h21 _ _ e21
      rw [PO.ok_bind e21] at hV hQ
      refine gor hL ?_; (repeat (clear hL; intro t hL; refine gor hL ?_))
      have h22 := numM_in he hk
      refine po_callE ((numC l pm k21 hk hl hs).on (by kernel_rfl) (fun p e h => hV p e (PO.err_bind h _)) hle (show Lay st [.box pm (rdr l k21), .box p3 _, .box p2 _] _ from hL.pk)) ?_
      clear hL
      rintro r t ⟨n22, k22, e22, rfl, hL⟩
      replace hk := h22 _ _ e22
      rw [PO.ok_bind e22] at hV hQ
      refine gor hL ?_; (repeat (clear hL; intro t hL; refine gor hL ?_))
      have h23 := mustM_in (w := bs [59]) he hk
      refine po_callE ((mustC l pm k22 hk hl (bs [59])).on (by kernel_rfl) (fun p e h => hV p e (PO.err_bind h _)) hle (show Lay st [.box pm (rdr l k22), .box p3 _, .box p2 _] _ from hL.pk)) ?_
      clear hL
      rintro r t ⟨_, k23, e23, rfl, hL⟩
      replace hk := h23 _ _ e23
      rw [PO.ok_bind e23] at hV hQ
      refine gor hL ?_; (repeat (clear hL; intro t hL; refine gor hL ?_))
      rw [← hQ]
      exact ⟨_, _, _, pret_one (pres_cell (b := p2) (o := 0) rfl (hL.ok _ List.mem_cons_self) rfl), .inr rfl, .refl _, _, _, rfl, rfl, hL.pk⟩
end Go.Pv
