/- Functions of the program, by value. No condition. -/
import Derived.Test.YtidelhpljjjjmaaW9
import Derived.Test.YtidelhpljjjjmaaW11
import Derived.Test.YtidelhpljjjjmaaW4
namespace Go.Pv
open Go.Proofs
set_option maxRecDepth 100000
set_option maxHeartbeats 8000000
/-- prompter/prompterlaw09.CourierAny -/
abbrev c10_2 : PCode :=
 (.seq (.region [⟨(.some 10), (.mov (.c (.d (.bool .false)))), .none⟩])
 .ret)
abbrev c10_1 : PCode :=
 (.cond (.t 22)
  c10_2
  .skip)
abbrev c10_5 : PCode :=
 (.seq (.region [⟨(.some 10), (.mov (.c (.d (.bool .true)))), .none⟩])
 .ret)
abbrev c10_4 : PCode :=
 (.cond (.t 35)
  c10_5
  .skip)
abbrev c10_10 : PCode :=
 (.seq (.region [⟨(.some 10), (.mov (.c (.d (.bool .true)))), .none⟩])
 .ret)
abbrev c10_9 : PCode :=
 (.cond (.t 48)
  c10_10
  .skip)
abbrev c10_21 : PCode :=
 (.seq (.region [⟨(.some 10), (.mov (.c (.d (.bool .false)))), .none⟩])
 .ret)
abbrev c10_20 : PCode :=
 (.cond (.t 94)
  c10_21
  .skip)
abbrev c10_22 : PCode :=
 (.keep [11, 77, 78, 79] (.exit 1))
abbrev c10_19 : PCode :=
 (.seq (.seq (.region [⟨(.some 91), (.load .true 4 (.t 17) .false), .none⟩,
   ⟨(.some 92), (.bld [(.d (.int .i64 0)), (.d (.flt .f64 0)), (.d (.str (bs []))), (.full [])] []), .none⟩,
   ⟨(.some 93), (.call0 18 [(.t 91), (.t 92)]), .none⟩,
   ⟨(.some 94), (.not (.t 93)), .none⟩])
 c10_20)
 c10_22)
abbrev c10_18 : PCode :=
 (.cond (.t 90)
  c10_19
  .skip)
abbrev c10_26 : PCode :=
 (.seq (.region [⟨(.some 10), (.mov (.c (.d (.bool .false)))), .none⟩])
 .ret)
abbrev c10_25 : PCode :=
 (.cond (.t 115)
  c10_26
  .skip)
abbrev c10_24 : PCode :=
 (.keep [11, 16, 17, 19, 20, 77, 78, 79] (.seq (.region [⟨(.some 101), (.load .true 4 (.t 11) .false), .none⟩,
   ⟨(.some 102), (.load .true 4 (.t 17) .false), .none⟩,
   ⟨(.some 103), (.call0 22 [(.t 101), (.t 102)]), .none⟩,
   ⟨(.some 104), (.bin .neq (.t 103) (.c (.d (.int .i64 0)))), .none⟩,
   ⟨(.some 105), (.mov (.t 104)), .none⟩,
   ⟨(.some 106), (.mov (.t 20)), (.some (105, .false))⟩,
   ⟨(.some 107), (.bin .neq (.t 106) (.c (.d (.int .i64 0)))), (.some (105, .false))⟩,
   ⟨(.some 108), (.pick (.t 105) (.c (.d (.bool .true))) (.t 107)), .none⟩,
   ⟨(.some 109), (.mov (.t 108)), .none⟩,
   ⟨(.some 110), (.mov (.t 19)), (.some (109, .false))⟩,
   ⟨(.some 111), (.strOf (.t 110)), (.some (109, .false))⟩,
   ⟨(.some 112), (.mov (.t 16)), (.some (109, .false))⟩,
   ⟨(.some 113), (.strOf (.t 112)), (.some (109, .false))⟩,
   ⟨(.some 114), (.bin .neq (.t 111) (.t 113)), (.some (109, .false))⟩,
   ⟨(.some 115), (.pick (.t 109) (.c (.d (.bool .true))) (.t 114)), .none⟩])
 c10_25))
abbrev c10_23 : PCode :=
 (.seq (.region [⟨(.some 96), (.load .true 4 (.t 11) .false), .none⟩,
   ⟨(.some 97), (.load .true 4 (.t 17) .false), .none⟩,
   ⟨(.some 98), (.call0 29 [(.t 96), (.t 97)]), .none⟩,
   ⟨(.some 95), (.mov (.t 98)), .none⟩,
   ⟨(.some 99), (.ext (.t 95) 0), .none⟩,
   ⟨(.some 100), (.ext (.t 95) 1), .none⟩,
   ⟨(.some 19), (.mov (.t 99)), .none⟩,
   ⟨(.some 20), (.mov (.t 100)), .none⟩])
 c10_24)
abbrev c10_17 : PCode :=
 (.keep [11, 16, 17, 18, 77, 78, 79] (.seq (.seq (.region [⟨(.some 89), (.mov (.t 18)), .none⟩,
   ⟨(.some 90), (.bin .neq (.t 89) (.c (.d (.int .i64 0)))), .none⟩])
 c10_18)
 c10_23))
abbrev c10_16 : PCode :=
 (.keep [11, 16, 77, 78, 79] (.seq (.region [⟨(.some 84), (.load .true 4 (.t 11) .false), .none⟩,
   ⟨(.some 85), (.mov (.t 16)), .none⟩,
   ⟨(.some 86), (.call0 30 [(.t 84), (.t 85)]), .none⟩,
   ⟨(.some 83), (.mov (.t 86)), .none⟩,
   ⟨(.some 87), (.ext (.t 83) 0), .none⟩,
   ⟨(.some 88), (.ext (.t 83) 1), .none⟩,
   ⟨(.some 17), (.alloc [(.d (.int .i64 0)), (.d (.flt .f64 0)), (.d (.str (bs []))), (.full [])]), .none⟩,
   ⟨.none, (.store 4 (.t 17) (.t 87)), .none⟩,
   ⟨(.some 18), (.mov (.t 88)), .none⟩])
 c10_17))
abbrev c10_15 : PCode :=
 (.block 1 (.seq (.region [⟨(.some 81), (.iaddr 1 (.t 77) (.t 79)), .none⟩,
   ⟨(.some 82), (.load .false 1 (.t 81) .false), .none⟩,
   ⟨(.some 16), (.mov (.t 82)), .none⟩])
 c10_16))
abbrev c10_14 : PCode :=
 (.keep [11, 77, 78, 79] (.block 0 (.loop (.some [79, 11, 77, 78]) (.seq (.region [⟨(.some 80), (.bin .lss (.t 79) (.t 78)), .none⟩])
 (.seq (.cond (.t 80)
  .skip
  (.exit 0))
 (.seq c10_15
 (.region [⟨(.some 116), (.bin .add (.t 79) (.c (.d (.int .i64 1)))), .none⟩,
   ⟨(.some 79), (.mov (.t 116)), .none⟩])))))))
abbrev c10_27 : PCode :=
 (.seq (.region [⟨(.some 10), (.mov (.c (.d (.bool .true)))), .none⟩])
 .ret)
abbrev c10_13 : PCode :=
 (.keep [2, 3, 11, 12, 14] (.seq (.seq (.region [⟨(.some 63), (.mov (.t 2)), .none⟩,
   ⟨(.some 64), (.mov (.t 14)), .none⟩,
   ⟨(.some 65), (.mov (.t 12)), .none⟩,
   ⟨(.some 66), (.mov (.t 3)), .none⟩,
   ⟨(.some 67), (.cvt .i64 (.t 66)), .none⟩,
   ⟨(.some 68), (.mov (.t 12)), .none⟩,
   ⟨(.some 69), (.len (.t 68)), .none⟩,
   ⟨(.some 70), (.bin .rem (.t 67) (.t 69)), .none⟩,
   ⟨(.some 71), (.slc 1 (.t 65) .none (.some (.t 70))), .none⟩,
   ⟨(.some 72), (.bsl 1 []), .none⟩,
   ⟨(.some 73), (.mov (.t 12)), .none⟩,
   ⟨(.some 74), (.app 1 1 (.t 72) (.t 73)), .none⟩,
   ⟨(.some 75), (.mov (.t 2)), .none⟩,
   ⟨(.some 76), (.app 1 1 (.t 74) (.t 75)), .none⟩,
   ⟨(.some 77), (.bsl 1 [(.t 63), (.t 64), (.t 71), (.t 76)]), .none⟩,
   ⟨(.some 78), (.len (.t 77)), .none⟩,
   ⟨(.some 79), (.mov (.c (.d (.int .i64 0)))), .none⟩])
 c10_14)
 c10_27))
abbrev c10_12 : PCode :=
 (.keep [2, 3, 4, 11, 12, 14] (.seq (.region [⟨(.some 52), (.mov (.t 14)), .none⟩,
   ⟨(.some 53), (.mov (.t 3)), .none⟩,
   ⟨(.some 54), (.cvt .i64 (.t 53)), .none⟩,
   ⟨(.some 55), (.mov (.t 14)), .none⟩,
   ⟨(.some 56), (.len (.t 55)), .none⟩,
   ⟨(.some 57), (.bin .rem (.t 54) (.t 56)), .none⟩,
   ⟨(.some 58), (.iaddr 1 (.t 52) (.t 57)), .none⟩,
   ⟨(.some 59), (.load .false 1 (.t 58) .false), .none⟩,
   ⟨(.some 60), (.mov (.t 4)), .none⟩,
   ⟨(.some 61), (.bin .xor (.t 59) (.t 60)), .none⟩,
   ⟨(.some 62), (.iaddr 1 (.t 52) (.t 57)), .none⟩,
   ⟨.none, (.store 1 (.t 62) (.t 61)), .none⟩])
 c10_13))
abbrev c10_11 : PCode :=
 (.keep [2, 3, 4, 11, 12] (.seq (.region [⟨(.some 49), (.bsl 1 []), .none⟩,
   ⟨(.some 50), (.mov (.t 12)), .none⟩,
   ⟨(.some 51), (.appB 1 1 (.t 49) (.t 50)), .none⟩,
   ⟨(.some 14), (.mov (.t 51)), .none⟩])
 c10_12))
abbrev c10_8 : PCode :=
 (.keep [2, 3, 4, 11, 12] (.seq (.seq (.region [⟨(.some 46), (.mov (.t 12)), .none⟩,
   ⟨(.some 47), (.len (.t 46)), .none⟩,
   ⟨(.some 48), (.bin .eql (.t 47) (.c (.d (.int .i64 0)))), .none⟩])
 c10_9)
 c10_11))
abbrev c10_7 : PCode :=
 (.keep [1, 2, 3, 4, 11] (.seq (.region [⟨(.some 39), (.load .true 4 (.t 11) .false), .none⟩,
   ⟨(.some 40), (.load .true 4 (.t 11) .false), .none⟩,
   ⟨(.some 41), (.mov (.t 1)), .none⟩,
   ⟨(.some 42), (.callp 14 [(.t 40), (.t 41)]), .none⟩,
   ⟨(.some 43), (.callp 29 [(.t 39), (.t 42)]), .none⟩,
   ⟨(.some 38), (.mov (.t 43)), .none⟩,
   ⟨(.some 44), (.ext (.t 38) 0), .none⟩,
   ⟨(.some 45), (.ext (.t 38) 1), .none⟩,
   ⟨(.some 12), (.mov (.t 44)), .none⟩,
   ⟨(.some 13), (.mov (.t 45)), .none⟩])
 c10_8))
abbrev c10_6 : PCode :=
 (.keep [1, 2, 3, 4, 5] (.seq (.region [⟨(.some 36), (.load .true 3 (.t 5) .false), .none⟩,
   ⟨(.some 37), (.call0 15 [(.t 36)]), .none⟩,
   ⟨(.some 11), (.alloc [(.d (.int .u8 0)), (.d (.int .i64 0)), (.full []), (.full [])]), .none⟩,
   ⟨.none, (.store 4 (.t 11) (.t 37)), .none⟩])
 c10_7))
abbrev c10_3 : PCode :=
 (.keep [1, 2, 3, 4, 5] (.seq (.seq (.region [⟨(.some 23), (.load .true 3 (.t 5) .false), .none⟩,
   ⟨(.some 24), (.call0 13 [(.t 23), (.c (.d (.int .i64 4)))]), .none⟩,
   ⟨(.some 25), (.not (.t 24)), .none⟩,
   ⟨(.some 26), (.mov (.t 25)), .none⟩,
   ⟨(.some 27), (.mov (.t 1)), (.some (26, .false))⟩,
   ⟨(.some 28), (.len (.t 27)), (.some (26, .false))⟩,
   ⟨(.some 29), (.bin .gtr (.t 28) (.c (.d (.int .i64 60)))), (.some (26, .false))⟩,
   ⟨(.some 30), (.pick (.t 26) (.c (.d (.bool .true))) (.t 29)), .none⟩,
   ⟨(.some 31), (.mov (.t 30)), .none⟩,
   ⟨(.some 32), (.mov (.t 2)), (.some (31, .false))⟩,
   ⟨(.some 33), (.len (.t 32)), (.some (31, .false))⟩,
   ⟨(.some 34), (.bin .gtr (.t 33) (.c (.d (.int .i64 100)))), (.some (31, .false))⟩,
   ⟨(.some 35), (.pick (.t 31) (.c (.d (.bool .true))) (.t 34)), .none⟩])
 c10_4)
 c10_6))
abbrev c10_0 : PCode :=
 (.seq (.seq (.region [⟨(.some 21), (.call0 28 []), .none⟩,
   ⟨(.some 22), (.not (.t 21)), .none⟩])
 c10_1)
 c10_3)
def c10 : PFun := ⟨
 (.seq (.region [⟨(.some 5), (.box 3 (.t 0)), .none⟩,
   ⟨(.some 10), (.mov (.c (.d (.bool .false)))), .none⟩])
 c10_0),
 5, 117, [(.tmp 10)]⟩

theorem e10 : entered Try.prog 10 = true := by kernel_rfl
theorem k10 : compFun Try.prog (fun i => if i = 9 then 8 else if i = 6 then 1 else 0) 10 = some c10.er := by kernel_rfl


theorem take_all {l : List Int} (hb : bytesL l) (hl : l.length < 2 ^ 40) {e : Nat} {T : KT} (hW : WO e T) (h : takeN l e T = 0) : VT.is e T (takeV l e T) = true ∧ (takeV l e T).fit ∧ putR e T (takeV l e T) = l ∧ l.length ≤ 4000 := by
  unfold takeN at h
  split at h
  · rename_i h40
    rw [takeV, if_pos ⟨h40, h⟩]
    have he : (takeM l e T ⟨0, 0⟩).2.e = 0 ∧ ¬ (takeM l e T ⟨0, 0⟩).2.p < l.length := by
      unfold endN at h
      split at h
      · cases h
      · rename_i h2
        exact ⟨h, fun h3 => h2 ⟨h, h3⟩⟩
    obtain ⟨h1, h2, h3⟩ := takeM_took hb hl hW ⟨Nat.zero_le _, by decide⟩ he.1
    refine ⟨h2, h3, ?_, h40⟩
    have h4 : l = _ ++ _ := h1.at_
    rw [List.drop_eq_nil_of_le (Nat.le_of_not_lt he.2), List.append_nil] at h4
    exact h4.symm
  · cases h
theorem take_none {l : List Int} {e : Nat} {T : KT} (h : takeN l e T ≠ 0) : takeV l e T = VT.zero := by
  unfold takeN at h
  rw [takeV]
  split at h
  · rename_i h40
    rw [if_neg (fun hh => h hh.2)]
  · rename_i h40
    rw [if_neg (fun hh => h40 hh.1)]
theorem zero_fit : VT.zero.fit := .mk (by decide) (by decide) (by decide) (by decide) fun x hx => by cases hx
theorem bytes_set {l : List Int} (h : bytesL l) {x : Int} (hx : 0 ≤ x ∧ x ≤ 255) (k : Nat) : bytesL (l.set k x) := fun y hy => by
  rcases List.mem_or_eq_of_mem_set hy with hy | rfl
  · exact h y hy
  · exact hx
theorem rowsB_flat : ∀ l : List Int, (rowsB l).flatten = l.map fun n => Dat.int .u8 n
  | [] => rfl
  | x :: l => by
    have := rowsB_flat l
    simp only [rowsB, List.map_cons, List.flatten_cons] at this ⊢
    rw [this]; rfl
theorem C10 (x : Nd) (hx : x.fit) (l : List Int) (hr : ∀ x ∈ l, -9223372036854775808 ≤ x ∧ x ≤ 9223372036854775807) (raw : List Int) (hrb : bytesL raw) (at_ : Int) (hat : 0 ≤ at_ ∧ at_ ≤ 65535) (by_ : Int) :
    Pure (PCalls Try.prog GG) 10 [x.av, .d (i64s l), .d (.sl (rowsB raw)), .d (.int .u16 at_), .d (.int .u8 by_)] (b2 true) := by
  intro st; refine pcalls_of k10 e10 (of_decide_eq_true rfl) ?_; dsimp only [c10]; refine pstartL ?_; intro t hL; generalize hQ : pfin _ _ = Q
  (refine gor hL ?_; (repeat (clear hL; intro t hL; refine gor hL ?_))); refine po_boxA hL ?_; clear hL; intro p5 t hL
  refine gor hL ?_; (repeat (clear hL; intro t hL; refine gor hL ?_))
  refine po_c0 (putAwake) ?_
  refine gor hL ?_; (repeat (clear hL; intro t hL; refine gor hL ?_))
  refine po_c0 (C13 x 4 hx (by decide)) ?_
  refine gor hL ?_; (repeat (clear hL; intro t hL; refine gor hL ?_))
  refine pcond_b rfl (fun hq => ?_) (fun hq => ?_)
  · refine gor hL ?_; (repeat (clear hL; intro t hL; refine gor hL ?_))
    rw [← hQ]
    exact pfin_pure rfl hL.le
  simp only [Bool.or_eq_false_iff, decide_eq_false_iff_not] at hq
  have hl : l.length < 2 ^ 40 := by omega
  have hrl : raw.length < 2 ^ 40 := by omega
  obtain ⟨t1, t2, t3⟩ := typ_le hx
  have hW : WT 4 (Nd.typ 4 x []) := .of_typ (by decide) hx
  have hcs : cost 20 (Nd.typ 4 x []) < 2 ^ 30 := Nat.lt_of_le_of_lt (hW.cost 20) (by decide)
  have hT := C15 x hx
  generalize Nd.typ 4 x [] = T at *
  have hV := C14 l hl hr T t1 t2 t3
  have hvf : (buildV l T).fit := (buildM_few hr hW 20 0 0).fit (by decide)
  have his : VT.is 4 T (buildV l T) = true := by rw [← is_deep hW 20 _ (by decide)]; exact buildV_is hr (by decide) hW
  have hP := putV hW (by decide) hvf his (buildV_count l hcs)
  generalize buildV l T = V at *
  have hGb : bytesL (putE 4 T V) := by
    rw [putE]; split
    · exact putR_bytes 4 T V
    · intro x hx; cases hx
  have hGl : (putE 4 T V).length ≤ 4000 := by
    rw [putE]; split
    · rename_i h; exact h.2
    · simp
  generalize putE 4 T V = Gd at *
  generalize putN 4 T V = Gn at *
  -- every bytes at all
  have each : ∀ B : List Int, bytesL B → B.length < 2 ^ 40 → Pure (PCalls Try.prog GG) 30 [T.av, .d (.sl (rowsB B))] (.tup [(takeV B 4 T).av, .d (.int .i64 (takeN B 4 T))]) := fun B h1 h2 => C30 B h1 h2 hW.wo (by decide)
  have hTk := t1
  simp only [VT.av_eq, KT.av_eq] at hT hV hP
  refine gor hL ?_; (repeat (clear hL; intro t hL; refine gor hL ?_))
  refine po_c0 (hT) ?_
  refine gor hL ?_; (repeat (clear hL; intro t hL; refine gor hL ?_))
  (refine gor hL ?_; (repeat (clear hL; intro t hL; refine gor hL ?_))); (with_reducible refine po_allocL hL rfl ?_); clear hL; intro p11 t hL
  refine gor hL ?_; (repeat (clear hL; intro t hL; refine gor hL ?_))
  refine po_cp (hV) ?_
  refine gor hL ?_; (repeat (clear hL; intro t hL; refine gor hL ?_))
  refine po_cp (hP) ?_
  refine gor hL ?_; (repeat (clear hL; intro t hL; refine gor hL ?_))
  refine pcond_b rfl (fun h0 => ?_) (fun h0 => ?_)
  · refine gor hL ?_; (repeat (clear hL; intro t hL; refine gor hL ?_))
    rw [← hQ]
    exact pfin_pure rfl hL.le
  have h0' : Gd.length ≠ 0 := by simpa using h0
  refine gor hL ?_; (repeat (clear hL; intro t hL; refine gor hL ?_)); (repeat (refine pseqk ?_; refine gor hL ?_; (repeat (clear hL; intro t hL; refine gor hL ?_))))
  obtain ⟨a, ha⟩ : ∃ a : Nat, at_ = a := ⟨at_.toNat, by omega⟩
  subst ha
  have hN : (rowsB Gd).length = Gd.length := by simp
  have hk : a % Gd.length < Gd.length := Nat.mod_lt _ (by omega)
  have hgk : Gd[a % Gd.length]? = some (Gd.getD (a % Gd.length) 0) := by rw [List.getD_eq_getElem?_getD, List.getElem?_eq_getElem hk]; rfl
  refine pjoinO (fun s' u => ∃ b cap, (rowsB Gd).length ≤ cap ∧ s' = put (put (put (put (put (put (fun _ => .undef) (some 14) (.bsl b 0 (rowsB Gd).length cap)) (some 12) (.d (.sl (rowsB Gd)))) (some 11) (ptrAt p11)) (some 4) (.d (.int .u8 by_))) (some 3) (.d (.int .u16 a))) (some 2) (.d (.sl (rowsB raw))) ∧
    Lay st [.box b ((rowsB Gd).flatten.map .d ++ List.replicate ((cap - (rowsB Gd).length) * 1) .undef), .box p11 [.d (.int .u8 T.kind), .d (.int .i64 T.most), .d (.sl (T.names.map fun s => [.str s])), .d (.sl (T.of.map KT.row))]] u) ?_ ?_
  · refine po_appBL hL rfl rfl rfl (rowsB_len _) (by rw [List.length_map]; omega) (fun h9 hL => ?_) (fun b cap t hne0 hcap hL => ?_)
    · exact absurd (show Gd.length = 0 by rw [← hN, h9]; rfl) h0'
    · refine gor hL ?_; (repeat (clear hL; intro t hL; refine gor hL ?_))
      exact ⟨_, _, .refl _ _, b, cap, hcap, (by first | exact trimA | simp +decide only [pvc, pvt]), hL.pk⟩
  clear hL
  rintro s' t ⟨b, cap, hcap, rfl, hL⟩
  refine gor hL ?_; (repeat (clear hL; intro t hL; refine gor hL ?_))
  refine gnm ?_; rw [IntWalk.i64_in (a : Int) (by omega)]
  refine po_remN rfl rfl (show (rowsB Gd).length ≠ 0 by omega) ?_
  rw [hN] at hL hcap ⊢
  refine gor hL ?_; (repeat (clear hL; intro t hL; refine gor hL ?_))
  have hcl : ((rowsB Gd).flatten.map AV.d ++ List.replicate ((cap - Gd.length) * 1) AV.undef).length = cap * 1 := by
    have := cells_len (rowsB_len Gd) (by rw [hN]; exact hcap); rw [hN] at this; exact this
  refine po rfl (iaddr_bslZ (k := a % Gd.length) rfl rfl hk) ?_
  have hld : ldv false 1 (((rowsB Gd).flatten.map AV.d ++ List.replicate ((cap - Gd.length) * 1) AV.undef).drop (a % Gd.length * 1)) = some (.d (.int .u8 (Gd.getD (a % Gd.length) 0))) := by
    rw [rowsB_flat, Nat.mul_one, List.map_map]
    have h1 : a % Gd.length < (List.map (AV.d ∘ fun n => Dat.int .u8 n) Gd ++ List.replicate ((cap - Gd.length) * 1) AV.undef).length := by simp; omega
    rw [List.drop_eq_getElem_cons h1]
    rw [ldv, if_neg (by simp; omega), if_neg (by simp), if_pos rfl, List.getElem_append_left (by simpa using hk)]
    simp only [List.head?_cons, List.getElem_map, Function.comp_apply]
    rw [List.getD_eq_getElem?_getD, List.getElem?_eq_getElem hk]; rfl
  refine po_loadL hL rfl rfl (by repeat (first | exact Rem.head | apply Rem.tail)) hld ?_
  refine gor hL ?_; (repeat (clear hL; intro t hL; refine gor hL ?_))
  refine po rfl (iaddr_bslZ (k := a % Gd.length) rfl rfl hk) ?_
  generalize hz : IntKind.u8.wrap ((BitVec.ofInt IntKind.u8.bits (Gd.getD (a % Gd.length) 0) ^^^ BitVec.ofInt IntKind.u8.bits by_).toNat : Int) = z
  have hz2 : 0 ≤ z ∧ z ≤ 255 := by rw [← hz, IntKind.wrap_u8]; omega
  generalize hG : Gd.set (a % Gd.length) z = G2
  have hGb2 : bytesL G2 := by rw [← hG]; exact bytes_set hGb hz2 _
  have hGl2 : G2.length = Gd.length := by rw [← hG]; simp
  refine pjoinO (fun s' u => s' = put (put (put (put (put (fun _ => .undef) (some 14) (.d (.sl (rowsB G2)))) (some 12) (.d (.sl (rowsB Gd)))) (some 11) (ptrAt p11)) (some 3) (.d (.int .u16 a))) (some 2) (.d (.sl (rowsB raw))) ∧
    Lay st [.box p11 [.d (.int .u8 T.kind), .d (.int .i64 T.most), .d (.sl (T.names.map fun s => [.str s])), .d (.sl (T.of.map KT.row))]] u) ?_ ?_
  · refine po_storeL (cs := [AV.d (.int .u8 z)]) hL rfl rfl (by repeat (first | exact Rem.head | apply Rem.tail)) rfl ⟨rfl, rfl⟩ (by rw [hcl]; omega) (set_cells (r := [.int .u8 z]) (rowsB_len _) (by rw [hN]; exact hk) _) (fun _ _ _ h => False.elim h) ?_
    clear hL; intro t hL
    rw [show (rowsB Gd).set (a % Gd.length) [.int .u8 z] = rowsB G2 by rw [← hG]; exact map_set (fun n => [Dat.int .u8 n]) Gd _ z] at hL
    have e1 : AV.frz1 b (rowsB G2) (.bsl b 0 Gd.length cap) = .d (.sl (rowsB G2)) := if_pos ⟨rfl, rfl, by simp [hGl2]⟩
    obtain ⟨t2, hz, hL⟩ := hL.frz (rowsB_len _) (cells_weak _ _)
    simp only [List.map_cons, List.map_nil, Item.frz, pvf] at hL
    refine gor hL ?_; (repeat (clear hL; intro t hL; refine gor hL ?_))
    refine ⟨_, t2, hz _, ?_, hL.pk⟩
    refine Eq.trans (congrArg (a₂ := put (put (put (put (put (fun _ => .undef) (some 14) (.bsl b 0 Gd.length cap)) (some 12) (.d (.sl (rowsB Gd)))) (some 11) (ptrAt p11)) (some 3) (.d (.int .u16 a))) (some 2) (.d (.sl (rowsB raw)))) (fun (f : Slots) => fun i => AV.frz b (rowsB G2) (f i)) (by first | exact trimA | simp +decide only [pvc, pvt])) ?_
    simp only [frz_put, frz_undef]
    rw [show AV.frz b (rowsB G2) (.bsl b 0 Gd.length cap) = .d (.sl (rowsB G2)) from e1]
    rfl
  clear hL
  rintro s' t ⟨rfl, hL⟩
  refine gor hL ?_; (repeat (clear hL; intro t hL; refine gor hL ?_))
  refine gnm ?_; rw [IntWalk.i64_in (a : Int) (by omega)]
  refine po_remN rfl rfl h0' ?_
  refine gor hL ?_; (repeat (clear hL; intro t hL; refine gor hL ?_))
  refine po rfl (slc_rows (j := a % Gd.length) rfl rfl (by rw [hN]; omega)) ?_
  rw [show (rowsB Gd).take (a % Gd.length) = rowsB (Gd.take (a % Gd.length)) by rw [rowsB, rowsB, List.map_take]]
  refine gor hL ?_; (repeat (clear hL; intro t hL; refine gor hL ?_))
  replace hL := hL.full [] 1
  refine po_appA (rows := []) (hn := rowsB_len _) hL (fun r h => (by cases h)) ?_ ?_
  · simp; omega
  clear hL; intro a1 t fa1 hL
  rw [List.nil_append] at hL fa1
  obtain ⟨fa1_r, fa1_w, fa1_w1, fa1_c, fa1_s, fa1_d⟩ := id fa1
  refine gor hL ?_; (repeat (clear hL; intro t hL; refine gor hL ?_))
  refine po_appA (hn := rowsB_len _) hL (rowsB_len _) ?_ ?_
  · simp; omega
  clear hL; intro a2 t fa2 hL
  rw [rowsB_app] at hL fa2
  obtain ⟨fa2_r, fa2_w, fa2_w1, fa2_c, fa2_s, fa2_d⟩ := id fa2
  refine gor hL ?_; (repeat (clear hL; intro t hL; refine gor hL ?_))
  generalize hBs : [raw, G2, Gd.take (a % Gd.length), Gd ++ raw] = Bs
  have hBb : ∀ B ∈ Bs, bytesL B ∧ B.length < 2 ^ 40 := by
    intro B hB
    rw [← hBs] at hB
    simp only [List.mem_cons, List.not_mem_nil, or_false] at hB
    rcases hB with rfl | rfl | rfl | rfl
    · exact ⟨hrb, hrl⟩
    · exact ⟨hGb2, by omega⟩
    · exact ⟨fun y hy => hGb y (List.mem_of_mem_take hy), by rw [List.length_take]; omega⟩
    · exact ⟨app_bytes hGb hrb, by rw [List.length_append]; omega⟩
  have hB4 : Bs.length = 4 := by rw [← hBs]; rfl
  refine po (v := .full (Bs.map fun B => [.sl (rowsB B)])) rfl ?_ ?_
  · rw [← hBs]
    show ((([AV.d (.sl (rowsB raw)), AV.d (.sl (rowsB G2)), AV.d (.sl (rowsB (Gd.take (a % Gd.length)))), a2] : List AV).mapM AV.datCells).bind fun rows => if rows.all (·.length == 1) then some (AV.full rows) else none) = _
    have e1 : ∀ x, AV.datCells (.d x) = some [x] := fun _ => rfl
    have e2 : a2.datCells = some [.sl (rowsB (Gd ++ raw))] := by rw [AV.datCells, fa2_c]; simp [fa2_d]
    rw [List.mapM_cons, e1, List.mapM_cons, e1, List.mapM_cons, e1, List.mapM_cons, e2]
    rfl
  refine gor hL ?_; (repeat (clear hL; intro t hL; refine gor hL ?_))
  refine gnm ?_; rw [List.length_map]
  have hTE : T.av = .agg [.d (.int .u8 T.kind), .d (.int .i64 T.most), .d (.sl (T.names.map fun s => [.str s])), .d (.sl (T.of.map KT.row))] := KT.av_eq T
  (apply prangeJ (Bs.length) (by omega) (fun j t => Lay st [.box p11 [.d (.int .u8 T.kind), .d (.int .i64 T.most), .d (.sl (T.names.map fun s => [.str s])), .d (.sl (T.of.map KT.row))]] t)); (· exact trimA); (· exact fun _ => rfl)
  · exact hL.pk
  · intro t hL
    refine gor hL ?_; (repeat (clear hL; intro t hL; refine gor hL ?_)); (repeat (refine pseqk ?_; refine gor hL ?_; (repeat (clear hL; intro t hL; refine gor hL ?_))))
    rw [← hQ]
    exact pfin_pure rfl hL.le
  clear hL
  intro j hj t hL
  obtain ⟨B, hB, hBm⟩ := elem_at hj
  obtain ⟨hb1, hb2⟩ := hBb B hBm
  have hTake := each B hb1 hb2
  refine pblock ?_
  refine gor hL ?_; (repeat (clear hL; intro t hL; refine gor hL ?_))
  by_cases h9 : takeN B 4 T = 0
  · obtain ⟨w1, w2, w3, w4⟩ := take_all hb1 hb2 hW.wo h9
    rw [h9] at hTake
    generalize takeV B 4 T = w at *
    have hCk := C22 T w t1 w2
    rw [VT.checkE, is_deep hW 20 _ (by decide), if_pos w1] at hCk
    have hPt := C29 hW (by decide) w w2 (fun _ => by rw [w3]; omega)
    obtain ⟨w5, w6⟩ := putN_small w1 (by rw [w3]; exact w4)
    rw [w5, w6, w3] at hPt
    simp only [VT.av_eq, KT.av_eq] at hTake hCk hPt
    refine gor hL ?_; (repeat (clear hL; intro t hL; refine gor hL ?_)); (repeat (refine pseqk ?_; refine gor hL ?_; (repeat (clear hL; intro t hL; refine gor hL ?_))))
    refine po_c0 (hTake) ?_
    refine gor hL ?_; (repeat (clear hL; intro t hL; refine gor hL ?_))
    (refine gor hL ?_; (repeat (clear hL; intro t hL; refine gor hL ?_))); (with_reducible refine po_allocL hL rfl ?_); clear hL; intro p17 t hL
    refine gor hL ?_; (repeat (clear hL; intro t hL; refine gor hL ?_)); (repeat (refine pseqk ?_; refine gor hL ?_; (repeat (clear hL; intro t hL; refine gor hL ?_))))
    refine po_c0 (hPt) ?_
    refine gor hL ?_; (repeat (clear hL; intro t hL; refine gor hL ?_)); (repeat (refine pseqk ?_; refine gor hL ?_; (repeat (clear hL; intro t hL; refine gor hL ?_))))
    refine po_c0 (hCk) ?_
    refine gor hL ?_; (repeat (clear hL; intro t hL; refine gor hL ?_))
    refine po rfl (ev_strOf rfl) ?_
    refine gor hL ?_; (repeat (clear hL; intro t hL; refine gor hL ?_))
    refine po rfl (ev_strOf rfl) ?_
    refine gor hL ?_; (repeat (clear hL; intro t hL; refine gor hL ?_))
    refine gnm ?_; rw [beq_self_eq_true (strOfL B).toList]
    refine gor hL ?_; (repeat (clear hL; intro t hL; refine gor hL ?_)); (repeat (refine pseqk ?_; refine gor hL ?_; (repeat (clear hL; intro t hL; refine gor hL ?_))))
    exact ⟨hL.pk, tr2⟩
  · have h9' : (takeN B 4 T != 0) = true := by simpa using h9
    have hz0 := take_none h9
    rw [hz0] at hTake
    have hSm := C18 VT.zero VT.zero zero_fit
    rw [VT.same_refl] at hSm
    simp only [VT.av_eq, KT.av_eq, VT.zero, VT.pj, List.map_nil] at hTake hSm
    refine gor hL ?_; (repeat (clear hL; intro t hL; refine gor hL ?_)); (repeat (refine pseqk ?_; refine gor hL ?_; (repeat (clear hL; intro t hL; refine gor hL ?_))))
    refine po_c0 (hTake) ?_
    refine gor hL ?_; (repeat (clear hL; intro t hL; refine gor hL ?_))
    (refine gor hL ?_; (repeat (clear hL; intro t hL; refine gor hL ?_))); (with_reducible refine po_allocL hL rfl ?_); clear hL; intro p17 t hL
    refine gor hL ?_; (repeat (clear hL; intro t hL; refine gor hL ?_)); (repeat (refine pseqk ?_; refine gor hL ?_; (repeat (clear hL; intro t hL; refine gor hL ?_))))
    refine gnm ?_; rw [h9']
    refine gor hL ?_; (repeat (clear hL; intro t hL; refine gor hL ?_)); (repeat (refine pseqk ?_; refine gor hL ?_; (repeat (clear hL; intro t hL; refine gor hL ?_))))
    refine po_c0 (hSm) ?_
    refine gor hL ?_; (repeat (clear hL; intro t hL; refine gor hL ?_)); (repeat (refine pseqk ?_; refine gor hL ?_; (repeat (clear hL; intro t hL; refine gor hL ?_))))
    exact ⟨hL.pk, tr2⟩
end Go.Pv
