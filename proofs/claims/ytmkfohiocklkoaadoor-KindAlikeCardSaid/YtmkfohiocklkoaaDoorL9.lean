/- Functions of the program, by value. No condition. -/
import Derived.Test.YtmkfohiocklkoaaDoorL6
import Derived.Test.YtmkfohiocklkoaaDoorD10
import Derived.Test.YtmkfohiocklkoaaDoorP27
namespace Go.Pv
open Go.Proofs
set_option maxRecDepth 100000
set_option maxHeartbeats 8000000

/-- prompter/prompterlaw05.KindAlike -/
abbrev c7_2 : PCode :=
 (.seq (.region [⟨(.some 4), (.mov (.c (.d (.bool .false)))), .none⟩])
 .ret)
abbrev c7_1 : PCode :=
 (.cond (.t 9)
  c7_2
  .skip)
abbrev c7_5 : PCode :=
 (.seq (.region [⟨(.some 4), (.mov (.c (.d (.bool .true)))), .none⟩])
 .ret)
abbrev c7_4 : PCode :=
 (.cond (.t 12)
  c7_5
  .skip)
abbrev c7_13 : PCode :=
 (.region [⟨(.some 31), (.faddr 0 (.t 6)), .none⟩,
   ⟨(.some 32), (.load .false 1 (.t 31) .false), .none⟩,
   ⟨(.some 33), (.bin .add (.t 32) (.c (.d (.str (bs [120]))))), .none⟩,
   ⟨(.some 34), (.faddr 0 (.t 6)), .none⟩,
   ⟨.none, (.store 1 (.t 34) (.t 33)), .none⟩])
abbrev c7_16 : PCode :=
 (.region [⟨(.some 37), (.faddr 1 (.t 6)), .none⟩,
   ⟨(.some 38), (.load .false 1 (.t 37) .false), .none⟩,
   ⟨(.some 39), (.bin .add (.t 38) (.c (.d (.int .i64 1)))), .none⟩,
   ⟨(.some 40), (.faddr 1 (.t 6)), .none⟩,
   ⟨.none, (.store 1 (.t 40) (.t 39)), .none⟩])
abbrev c7_19 : PCode :=
 (.region [⟨(.some 43), (.faddr 3 (.t 6)), .none⟩,
   ⟨(.some 44), (.load .false 1 (.t 43) .false), .none⟩,
   ⟨(.some 45), (.bld [(.d (.str (bs []))), (.d (.int .u8 0)), (.d (.int .i64 0)), (.full []), (.full [])] [(0, (1, (.c (.d (.str (bs [120]))))))]), .none⟩,
   ⟨(.some 46), (.bsl 5 [(.t 45)]), .none⟩,
   ⟨(.some 47), (.app 5 80 (.t 44) (.t 46)), .none⟩,
   ⟨(.some 48), (.faddr 3 (.t 6)), .none⟩,
   ⟨.none, (.store 1 (.t 48) (.t 47)), .none⟩])
abbrev c7_22 : PCode :=
 (.region [⟨(.some 51), (.bsl 2 []), .none⟩,
   ⟨(.some 52), (.faddr 4 (.t 6)), .none⟩,
   ⟨(.some 53), (.load .false 1 (.t 52) .false), .none⟩,
   ⟨(.some 54), (.app 2 24 (.t 51) (.t 53)), .none⟩,
   ⟨(.some 55), (.bld [(.d (.str (bs []))), (.d (.int .i64 0))] [(0, (1, (.c (.d (.str (bs [120]))))))]), .none⟩,
   ⟨(.some 56), (.bsl 2 [(.t 55)]), .none⟩,
   ⟨(.some 57), (.app 2 24 (.t 54) (.t 56)), .none⟩,
   ⟨(.some 58), (.faddr 4 (.t 6)), .none⟩,
   ⟨.none, (.store 1 (.t 58) (.t 57)), .none⟩])
abbrev c7_25 : PCode :=
 (.region [⟨(.some 61), (.faddr 5 (.t 6)), .none⟩,
   ⟨(.some 62), (.load .false 1 (.t 61) .false), .none⟩,
   ⟨(.some 63), (.bld [(.d (.str (bs []))), (.d (.int .i64 0)), (.d (.int .u8 0)), (.d (.int .i64 0)), (.full []), (.full []), (.d (.int .u8 0)), (.d (.int .i64 0)), (.full []), (.full []), (.d (.int .u8 0)), (.d (.int .i64 0))] [(0, (1, (.c (.d (.str (bs [120]))))))]), .none⟩,
   ⟨(.some 64), (.bsl 12 [(.t 63)]), .none⟩,
   ⟨(.some 65), (.app 12 168 (.t 62) (.t 64)), .none⟩,
   ⟨(.some 66), (.faddr 5 (.t 6)), .none⟩,
   ⟨.none, (.store 1 (.t 66) (.t 65)), .none⟩])
abbrev c7_31 : PCode :=
 (.region [⟨(.some 74), (.faddr 5 (.t 6)), .none⟩,
   ⟨(.some 75), (.load .false 1 (.t 74) .false), .none⟩,
   ⟨(.some 76), (.iaddr 12 (.t 75) (.c (.d (.int .i64 0)))), .none⟩,
   ⟨(.some 77), (.faddr 11 (.t 76)), .none⟩,
   ⟨(.some 78), (.load .false 1 (.t 77) .false), .none⟩,
   ⟨(.some 79), (.bin .add (.t 78) (.c (.d (.int .i64 1)))), .none⟩,
   ⟨(.some 80), (.iaddr 12 (.t 75) (.c (.d (.int .i64 0)))), .none⟩,
   ⟨(.some 81), (.faddr 11 (.t 80)), .none⟩,
   ⟨.none, (.store 1 (.t 81) (.t 79)), .none⟩])
abbrev c7_30 : PCode :=
 (.cond (.t 73)
  c7_31
  .skip)
abbrev c7_29 : PCode :=
 (.keep [5, 6, 7] (.seq (.region [⟨(.some 73), (.mov (.t 7)), .none⟩])
 c7_30))
abbrev c7_28 : PCode :=
 (.seq (.region [⟨(.some 69), (.faddr 5 (.t 6)), .none⟩,
   ⟨(.some 70), (.load .false 1 (.t 69) .false), .none⟩,
   ⟨(.some 71), (.len (.t 70)), .none⟩,
   ⟨(.some 72), (.bin .gtr (.t 71) (.c (.d (.int .i64 0)))), .none⟩,
   ⟨(.some 7), (.mov (.t 72)), .none⟩])
 c7_29)
abbrev c7_37 : PCode :=
 (.region [⟨(.some 89), (.faddr 5 (.t 6)), .none⟩,
   ⟨(.some 90), (.load .false 1 (.t 89) .false), .none⟩,
   ⟨(.some 91), (.iaddr 12 (.t 90) (.c (.d (.int .i64 0)))), .none⟩,
   ⟨(.some 92), (.faddr 10 (.t 91)), .none⟩,
   ⟨(.some 93), (.load .false 1 (.t 92) .false), .none⟩,
   ⟨(.some 94), (.bin .add (.t 93) (.c (.d (.int .u8 1)))), .none⟩,
   ⟨(.some 95), (.iaddr 12 (.t 90) (.c (.d (.int .i64 0)))), .none⟩,
   ⟨(.some 96), (.faddr 10 (.t 95)), .none⟩,
   ⟨.none, (.store 1 (.t 96) (.t 94)), .none⟩])
abbrev c7_36 : PCode :=
 (.cond (.t 88)
  c7_37
  .skip)
abbrev c7_35 : PCode :=
 (.keep [5, 6, 7] (.seq (.region [⟨(.some 88), (.mov (.t 7)), .none⟩])
 c7_36))
abbrev c7_34 : PCode :=
 (.seq (.region [⟨(.some 84), (.faddr 5 (.t 6)), .none⟩,
   ⟨(.some 85), (.load .false 1 (.t 84) .false), .none⟩,
   ⟨(.some 86), (.len (.t 85)), .none⟩,
   ⟨(.some 87), (.bin .gtr (.t 86) (.c (.d (.int .i64 0)))), .none⟩,
   ⟨(.some 7), (.mov (.t 87)), .none⟩])
 c7_35)
abbrev c7_43 : PCode :=
 (.region [⟨(.some 104), (.faddr 3 (.t 6)), .none⟩,
   ⟨(.some 105), (.load .false 1 (.t 104) .false), .none⟩,
   ⟨(.some 106), (.iaddr 5 (.t 105) (.c (.d (.int .i64 0)))), .none⟩,
   ⟨(.some 107), (.faddr 1 (.t 106)), .none⟩,
   ⟨(.some 108), (.faddr 1 (.t 107)), .none⟩,
   ⟨(.some 109), (.load .false 1 (.t 108) .false), .none⟩,
   ⟨(.some 110), (.bin .add (.t 109) (.c (.d (.int .i64 1)))), .none⟩,
   ⟨(.some 111), (.iaddr 5 (.t 105) (.c (.d (.int .i64 0)))), .none⟩,
   ⟨(.some 112), (.faddr 1 (.t 111)), .none⟩,
   ⟨(.some 113), (.faddr 1 (.t 112)), .none⟩,
   ⟨.none, (.store 1 (.t 113) (.t 110)), .none⟩])
abbrev c7_42 : PCode :=
 (.cond (.t 103)
  c7_43
  .skip)
abbrev c7_41 : PCode :=
 (.keep [5, 6, 7] (.seq (.region [⟨(.some 103), (.mov (.t 7)), .none⟩])
 c7_42))
abbrev c7_40 : PCode :=
 (.seq (.region [⟨(.some 99), (.faddr 3 (.t 6)), .none⟩,
   ⟨(.some 100), (.load .false 1 (.t 99) .false), .none⟩,
   ⟨(.some 101), (.len (.t 100)), .none⟩,
   ⟨(.some 102), (.bin .gtr (.t 101) (.c (.d (.int .i64 0)))), .none⟩,
   ⟨(.some 7), (.mov (.t 102)), .none⟩])
 c7_41)
abbrev c7_44 : PCode :=
 (.region [⟨(.some 7), (.mov (.c (.d (.bool .false)))), .none⟩])
abbrev c7_39 : PCode :=
 (.cond (.t 97)
  c7_40
  c7_44)
abbrev c7_38 : PCode :=
 (.seq (.region [⟨(.some 98), (.bin .eql (.t 28) (.c (.d (.int .u8 7)))), .none⟩,
   ⟨(.some 97), (.mov (.t 98)), .none⟩])
 c7_39)
abbrev c7_33 : PCode :=
 (.cond (.t 82)
  c7_34
  c7_38)
abbrev c7_32 : PCode :=
 (.seq (.region [⟨(.some 83), (.bin .eql (.t 28) (.c (.d (.int .u8 6)))), .none⟩,
   ⟨(.some 82), (.mov (.t 83)), .none⟩])
 c7_33)
abbrev c7_27 : PCode :=
 (.cond (.t 67)
  c7_28
  c7_32)
abbrev c7_26 : PCode :=
 (.seq (.region [⟨(.some 68), (.bin .eql (.t 28) (.c (.d (.int .u8 5)))), .none⟩,
   ⟨(.some 67), (.mov (.t 68)), .none⟩])
 c7_27)
abbrev c7_24 : PCode :=
 (.cond (.t 59)
  c7_25
  c7_26)
abbrev c7_23 : PCode :=
 (.seq (.region [⟨(.some 60), (.bin .eql (.t 28) (.c (.d (.int .u8 4)))), .none⟩,
   ⟨(.some 59), (.mov (.t 60)), .none⟩])
 c7_24)
abbrev c7_21 : PCode :=
 (.cond (.t 49)
  c7_22
  c7_23)
abbrev c7_20 : PCode :=
 (.seq (.region [⟨(.some 50), (.bin .eql (.t 28) (.c (.d (.int .u8 3)))), .none⟩,
   ⟨(.some 49), (.mov (.t 50)), .none⟩])
 c7_21)
abbrev c7_18 : PCode :=
 (.cond (.t 41)
  c7_19
  c7_20)
abbrev c7_17 : PCode :=
 (.seq (.region [⟨(.some 42), (.bin .eql (.t 28) (.c (.d (.int .u8 2)))), .none⟩,
   ⟨(.some 41), (.mov (.t 42)), .none⟩])
 c7_18)
abbrev c7_15 : PCode :=
 (.cond (.t 35)
  c7_16
  c7_17)
abbrev c7_14 : PCode :=
 (.seq (.region [⟨(.some 36), (.bin .eql (.t 28) (.c (.d (.int .u8 1)))), .none⟩,
   ⟨(.some 35), (.mov (.t 36)), .none⟩])
 c7_15)
abbrev c7_12 : PCode :=
 (.cond (.t 29)
  c7_13
  c7_14)
abbrev c7_11 : PCode :=
 (.block 0 (.seq (.region [⟨(.some 30), (.bin .eql (.t 28) (.c (.d (.int .u8 0)))), .none⟩,
   ⟨(.some 29), (.mov (.t 30)), .none⟩])
 c7_12))
abbrev c7_45 : PCode :=
 (.keep [5, 6, 7] (.seq (.region [⟨(.some 114), (.load .true 6 (.t 5) .false), .none⟩,
   ⟨(.some 115), (.load .true 6 (.t 6) .false), .none⟩,
   ⟨(.some 116), (.call0 19 [(.t 114), (.t 115)]), .none⟩,
   ⟨(.some 117), (.mov (.t 7)), .none⟩,
   ⟨(.some 118), (.not (.t 117)), .none⟩,
   ⟨(.some 119), (.eqB .false (.t 116) (.t 118)), .none⟩,
   ⟨(.some 120), (.mov (.t 119)), .none⟩,
   ⟨(.some 121), (.load .true 6 (.t 6) .false), (.some (120, .true))⟩,
   ⟨(.some 122), (.load .true 6 (.t 5) .false), (.some (120, .true))⟩,
   ⟨(.some 123), (.call0 19 [(.t 121), (.t 122)]), (.some (120, .true))⟩,
   ⟨(.some 124), (.mov (.t 7)), (.some (120, .true))⟩,
   ⟨(.some 125), (.not (.t 124)), (.some (120, .true))⟩,
   ⟨(.some 126), (.eqB .false (.t 123) (.t 125)), (.some (120, .true))⟩,
   ⟨(.some 127), (.pick (.t 120) (.t 126) (.c (.d (.bool .false)))), .none⟩,
   ⟨(.some 4), (.mov (.t 127)), .none⟩])
 .ret))
abbrev c7_10 : PCode :=
 (.seq (.seq (.region [⟨(.some 27), (.mov (.t 1)), .none⟩,
   ⟨(.some 28), (.bin .rem (.t 27) (.c (.d (.int .u8 9)))), .none⟩])
 c7_11)
 c7_45)
abbrev c7_9 : PCode :=
 (.keep [1, 5, 6] (.seq (.region [⟨(.some 7), (.mov (.c (.d (.bool .true)))), .none⟩])
 c7_10))
abbrev c7_8 : PCode :=
 (.keep [1, 5, 6] (.seq (.region [⟨(.some 22), (.bsl 12 []), .none⟩,
   ⟨(.some 23), (.faddr 5 (.t 6)), .none⟩,
   ⟨(.some 24), (.load .false 1 (.t 23) .false), .none⟩,
   ⟨(.some 25), (.appB 12 168 (.t 22) (.t 24)), .none⟩,
   ⟨(.some 26), (.faddr 5 (.t 6)), .none⟩,
   ⟨.none, (.store 1 (.t 26) (.t 25)), .none⟩])
 c7_9))
abbrev c7_7 : PCode :=
 (.keep [1, 5, 6] (.seq (.region [⟨(.some 17), (.bsl 5 []), .none⟩,
   ⟨(.some 18), (.faddr 3 (.t 6)), .none⟩,
   ⟨(.some 19), (.load .false 1 (.t 18) .false), .none⟩,
   ⟨(.some 20), (.appB 5 80 (.t 17) (.t 19)), .none⟩,
   ⟨(.some 21), (.faddr 3 (.t 6)), .none⟩,
   ⟨.none, (.store 1 (.t 21) (.t 20)), .none⟩])
 c7_8))
abbrev c7_6 : PCode :=
 (.keep [1, 2] (.seq (.region [⟨(.some 13), (.load .true 4 (.t 2) .false), .none⟩,
   ⟨(.some 14), (.callp 11 [(.t 13)]), .none⟩,
   ⟨(.some 15), (.load .true 4 (.t 2) .false), .none⟩,
   ⟨(.some 16), (.callp 11 [(.t 15)]), .none⟩,
   ⟨(.some 5), (.alloc [(.d (.str (bs []))), (.d (.int .i64 0)), (.d (.int .i64 0)), (.full []), (.full []), (.full [])]), .none⟩,
   ⟨(.some 6), (.alloc [(.d (.str (bs []))), (.d (.int .i64 0)), (.d (.int .i64 0)), (.full []), (.full []), (.full [])]), .none⟩,
   ⟨.none, (.store 6 (.t 5) (.t 14)), .none⟩,
   ⟨.none, (.store 6 (.t 6) (.t 16)), .none⟩])
 c7_7))
abbrev c7_3 : PCode :=
 (.keep [1, 2] (.seq (.seq (.region [⟨(.some 10), (.load .true 4 (.t 2) .false), .none⟩,
   ⟨(.some 11), (.call0 10 [(.t 10)]), .none⟩,
   ⟨(.some 12), (.not (.t 11)), .none⟩])
 c7_4)
 c7_6))
abbrev c7_0 : PCode :=
 (.seq (.seq (.region [⟨(.some 8), (.call0 9 []), .none⟩,
   ⟨(.some 9), (.not (.t 8)), .none⟩])
 c7_1)
 c7_3)
def c7 : PFun := ⟨
 (.seq (.region [⟨(.some 2), (.box 4 (.t 0)), .none⟩,
   ⟨(.some 4), (.mov (.c (.d (.bool .false)))), .none⟩])
 c7_0),
 2, 128, [(.tmp 4)]⟩

theorem e7 : entered Tryd.prog 7 = true := by kernel_rfl
theorem k7 : compFun Tryd.prog (fun i => if i = 5 then 1 else if i = 6 then 8 else if i = 7 then 8 else 0) 7 = some c7.er := by kernel_rfl


def c7e : PCode := match c7_45 with | .keep _ b => b | x => x
theorem alikeEnd {T T' : TB} {tn : Bool} {w1 w2 w3 : AV} {p5 p6 : Nat} {st t : St} {Q : PEx → Slots → St → Prop} (hQ : pfin [PRes.tmp 4] (fun r st' => st' = st ∧ r = b2 true) = Q)
    (hL : Lay st [.box p6 [.d (.str T'.name), .d (.int .i64 T'.number), .d (.int .i64 T'.version), w1, w2, w3], .box p5 [.d (.str T.name), .d (.int .i64 T.number), .d (.int .i64 T.version), .d (.sl (T.types.map Al.row)), .d (.sl (T.faults.map Fl.row)), .d (.sl (T.procs.map Pc.row))]] t)
    (k1 : w1.weak1 = .d (.sl (T'.types.map Al.row))) (k2 : w2.weak1 = .d (.sl (T'.faults.map Fl.row))) (k3 : w3.weak1 = .d (.sl (T'.procs.map Pc.row))) (h1 : T.fit) (h2 : T'.fit) (h3 : T.alike T' = !tn) (h4 : T'.alike T = !tn) :
    pwp GK (PCalls Tryd.prog GK) c7e Q (put (put (put (fun _ => .undef) (some 7) (b2 tn)) (some 6) (ptrAt p6)) (some 5) (ptrAt p5)) t := by
  unfold c7e
  dsimp only [c7_45]
  refine gor hL ?_; (repeat (clear hL; intro t hL; refine gor hL ?_))
  refine po_c0 (C19 T T' h1) ?_
  rw [h3]
  refine gor hL ?_; (repeat (clear hL; intro t hL; refine gor hL ?_))
  refine gnm ?_; simp only [beq_self_eq_true, bne_self_eq_false, Int.reduceBEq, Int.reduceBNe]
  refine gor hL ?_; (repeat (clear hL; intro t hL; refine gor hL ?_))
  refine po_c0 (C19 T' T h2) ?_
  rw [h4]
  refine gor hL ?_; (repeat (clear hL; intro t hL; refine gor hL ?_))
  refine gnm ?_; simp only [beq_self_eq_true, bne_self_eq_false, Int.reduceBEq, Int.reduceBNe]
  refine gor hL ?_; (repeat (clear hL; intro t hL; refine gor hL ?_))
  rw [← hQ]
  exact pfin_pure rfl hL.le
theorem cells_frz (l : List Dat) (n b : Nat) (rows : List (List Dat)) : (l.map AV.d ++ List.replicate n AV.undef).map (AV.frz1 b rows) = l.map AV.d ++ List.replicate n AV.undef := by
  simp [AV.frz1, Function.comp_def]
theorem pvo (b : Nat) (rows : List (List Dat)) (k : Nat) : (∀ x : Dat, (AV.d x).own1 b rows k = .d x) ∧ (∀ l, (AV.full l).own1 b rows k = .full l) ∧ (∀ c l j, (AV.own c l j).own1 b rows k = .own c l j) := ⟨fun _ => rfl, fun _ => rfl, fun _ _ _ => rfl⟩
theorem iaddr_bsl {G : Glob} {s : Slots} {a x : Arg} {b off n cap sz : Nat} (ha : a.ev G s = .bsl b off n cap) (hx : x.ev G s = .d (.int .i64 0)) (hn : 0 < n) : ev G s (.iaddr sz a x) = some (.d (.ptr b off)) := by
  simp only [ev, ha, hx]
  rw [if_pos (by omega)]
  simp
theorem fit_procs_of {t : TB} (h : t.fit) {l : List Pc} (h1 : l.length < 2 ^ 40) (h2 : ∀ p ∈ l, p.name.size < 2 ^ 60) (h3 : ∀ p ∈ l, p.takes.fit ∧ p.answers.fit) : (TB.mk t.name t.number t.version t.types t.faults l).fit :=
  ⟨h.name, h.types, h.tnames, h.faults, h.fnames, h1, h2, h3⟩
/-- Which of nine. -/
theorem pvz : (∀ n : Int, (n == n) = true) ∧ ((0 : Int) == 1) = false ∧ ((0 : Int) == 2) = false ∧ ((0 : Int) == 3) = false ∧ ((0 : Int) == 4) = false ∧ ((0 : Int) == 5) = false ∧ ((0 : Int) == 6) = false ∧ ((0 : Int) == 7) = false ∧ ((1 : Int) == 0) = false ∧ ((1 : Int) == 2) = false ∧ ((1 : Int) == 3) = false ∧ ((1 : Int) == 4) = false ∧ ((1 : Int) == 5) = false ∧ ((1 : Int) == 6) = false ∧ ((1 : Int) == 7) = false ∧ ((2 : Int) == 0) = false ∧ ((2 : Int) == 1) = false ∧ ((2 : Int) == 3) = false ∧ ((2 : Int) == 4) = false ∧ ((2 : Int) == 5) = false ∧ ((2 : Int) == 6) = false ∧ ((2 : Int) == 7) = false ∧ ((3 : Int) == 0) = false ∧ ((3 : Int) == 1) = false ∧ ((3 : Int) == 2) = false ∧ ((3 : Int) == 4) = false ∧ ((3 : Int) == 5) = false ∧ ((3 : Int) == 6) = false ∧ ((3 : Int) == 7) = false ∧ ((4 : Int) == 0) = false ∧ ((4 : Int) == 1) = false ∧ ((4 : Int) == 2) = false ∧ ((4 : Int) == 3) = false ∧ ((4 : Int) == 5) = false ∧ ((4 : Int) == 6) = false ∧ ((4 : Int) == 7) = false ∧ ((5 : Int) == 0) = false ∧ ((5 : Int) == 1) = false ∧ ((5 : Int) == 2) = false ∧ ((5 : Int) == 3) = false ∧ ((5 : Int) == 4) = false ∧ ((5 : Int) == 6) = false ∧ ((5 : Int) == 7) = false ∧ ((6 : Int) == 0) = false ∧ ((6 : Int) == 1) = false ∧ ((6 : Int) == 2) = false ∧ ((6 : Int) == 3) = false ∧ ((6 : Int) == 4) = false ∧ ((6 : Int) == 5) = false ∧ ((6 : Int) == 7) = false ∧ ((7 : Int) == 0) = false ∧ ((7 : Int) == 1) = false ∧ ((7 : Int) == 2) = false ∧ ((7 : Int) == 3) = false ∧ ((7 : Int) == 4) = false ∧ ((7 : Int) == 5) = false ∧ ((7 : Int) == 6) = false ∧ ((8 : Int) == 0) = false ∧ ((8 : Int) == 1) = false ∧ ((8 : Int) == 2) = false ∧ ((8 : Int) == 3) = false ∧ ((8 : Int) == 4) = false ∧ ((8 : Int) == 5) = false ∧ ((8 : Int) == 6) = false ∧ ((8 : Int) == 7) = false := by simp
theorem fit_more {t : TB} (h : t.fit) (hl : t.types.length ≤ 4) : (TB.mk t.name t.number t.version (t.types ++ [⟨xN, KT.zero⟩]) t.faults t.procs).fit :=
  fit_types h (by simp only [List.length_append, List.length_singleton]; omega) (fun a ha => by
    rcases List.mem_append.1 ha with ha | ha
    · exact h.types.2 a ha
    · rw [List.mem_singleton.1 ha]; exact KT.zero_fit) (fun a ha => by
    rcases List.mem_append.1 ha with ha | ha
    · exact h.tnames a ha
    · rw [List.mem_singleton.1 ha]; show xN.size < _; decide)

theorem C7 (s : Sm) (hf : s.fit) (what : Int) (hwh : 0 ≤ what ∧ what ≤ 255) : Pure (PCalls Tryd.prog GK) 7 [s.av, .d (.int .u8 what)] (b2 true) := by
  have htf := tb_fit hf
  have htf2 : s.tb.name.size < 100 := by show face.size < 100; decide
  have has := as_le s
  have hl4 : s.tb.types.length ≤ 4 ∧ s.tb.faults.length ≤ 4 ∧ s.tb.procs.length ≤ 4 := ⟨by simp [Sm.tb]; omega, by have := fs_lt hf; simp [Sm.tb]; omega, by have := ps_le s; simp [Sm.tb]; omega⟩
  intro st; refine pcalls_of k7 e7 (of_decide_eq_true rfl) ?_; dsimp only [c7]; refine pstartL ?_; intro t hL; generalize hQ : pfin _ _ = Q
  (refine gor hL ?_; (repeat (clear hL; intro t hL; refine gor hL ?_))); refine po_boxA hL ?_; clear hL; intro p2 t hL
  refine gor hL ?_; (repeat (clear hL; intro t hL; refine gor hL ?_))
  refine po_call rfl C9 (fun _ _ h => False.elim h) ?_
  refine gor hL ?_; (repeat (clear hL; intro t hL; refine gor hL ?_))
  refine po_call rfl (C10 s hf) (fun _ _ h => False.elim h) ?_
  refine gor hL ?_; (repeat (clear hL; intro t hL; refine gor hL ?_))
  refine pcond_b rfl (fun h1 => ?_) (fun h1 => ?_)
  · refine gor hL ?_; (repeat (clear hL; intro t hL; refine gor hL ?_))
    rw [← hQ]
    exact pfin_pure rfl hL.le
  refine gor hL ?_; (repeat (clear hL; intro t hL; refine gor hL ?_))
  refine po_callp rfl (C11 s hf) ?_
  refine gor hL ?_; (repeat (clear hL; intro t hL; refine gor hL ?_))
  refine po_callp rfl (C11 s hf) ?_
  generalize s.tb = T at *
  have hr1 : ∀ r ∈ T.types.map Al.row, r.length = 5 := fun r hr => by
    obtain ⟨i, _, rfl⟩ := List.mem_map.1 hr; exact Al.row_len _
  have hr2 : ∀ r ∈ T.faults.map Fl.row, r.length = 2 := fun r hr => by
    obtain ⟨i, _, rfl⟩ := List.mem_map.1 hr; rfl
  have hr3 : ∀ r ∈ T.procs.map Pc.row, r.length = 12 := fun r hr => by
    obtain ⟨i, _, rfl⟩ := List.mem_map.1 hr; rfl
  (refine gor hL ?_; (repeat (clear hL; intro t hL; refine gor hL ?_))); (with_reducible refine po_allocL hL rfl ?_); clear hL; intro p5 t hL
  (refine gor hL ?_; (repeat (clear hL; intro t hL; refine gor hL ?_))); (with_reducible refine po_allocL hL rfl ?_); clear hL; intro p6 t hL
  refine gor hL ?_; (repeat (clear hL; intro t hL; refine gor hL ?_))
  have hcase : what % 9 = 0 ∨ what % 9 = 1 ∨ what % 9 = 2 ∨ what % 9 = 3 ∨ what % 9 = 4 ∨ what % 9 = 5 ∨ what % 9 = 6 ∨ what % 9 = 7 ∨ what % 9 = 8 := by omega
  rcases hcase with hcase | hcase | hcase | hcase | hcase | hcase | hcase | hcase | hcase
  · -- 0
    have hw : what.tmod 9 = 0 := by rw [IntWalk.rem_in _ _ (by omega)]; exact hcase
    refine gor hL ?_; (repeat (clear hL; intro t hL; refine gor hL ?_))
    refine pjoinO (fun s u => ∃ vT, VF vT (T.types.map Al.row) ∧ s = put (put (put (fun _ => .undef) (some 6) (ptrAt p6)) (some 5) (ptrAt p5)) (some 1) (.d (.int .u8 what)) ∧ Lay st [.box p6 [.d (.str (T.name)), .d (.int .i64 (T.number)), .d (.int .i64 T.version), vT, .d (.sl (T.faults.map Fl.row)), .d (.sl (T.procs.map Pc.row))], .box p5 [.d (.str (T.name)), .d (.int .i64 (T.number)), .d (.int .i64 T.version), .d (.sl (T.types.map Al.row)), .d (.sl (T.faults.map Fl.row)), .d (.sl (T.procs.map Pc.row))]] u) ?_ ?_
    · skip
      refine po_appBL hL rfl rfl rfl hr1 (by simp; omega) (fun h0 hL => ?_) (fun b cap t hne0 hcap hL => ?_)
      · skip
        refine gor hL ?_; (repeat (clear hL; intro t hL; refine gor hL ?_))
        exact ⟨_, _, .refl _ _, .full [], VF.nil h0, tr2, hL.pk⟩
      · skip
        refine gor hL ?_; (repeat (clear hL; intro t hL; refine gor hL ?_))
        have ec : (AV.bsl b 0 (T.types.map Al.row).length cap).cells = [.bsl b 0 (T.types.map Al.row).length cap] := rfl
        have e1 : AV.frz1 b (T.types.map Al.row) (.bsl b 0 (T.types.map Al.row).length cap) = .d (.sl (T.types.map Al.row)) := if_pos ⟨rfl, rfl, rfl⟩
        obtain ⟨t2, hz, hL⟩ := (hL.rem (x := .box b ((T.types.map Al.row).flatten.map .d ++ List.replicate ((cap - (T.types.map Al.row).length) * 5) .undef)) (by repeat (first | exact Rem.head | apply Rem.tail))).frz hr1 (cells_weak _ _)
        simp only [List.map_cons, List.map_nil, Item.frz, ec, List.cons_append, List.nil_append, e1, pvf] at hL
        refine ⟨_, t2, hz _, .d (.sl (T.types.map Al.row)), VF.sl _, ?_, hL.pk⟩
        refine Eq.trans (congrArg (a₂ := put (put (put (fun _ => .undef) (some 6) (ptrAt p6)) (some 5) (ptrAt p5)) (some 1) (.d (.int .u8 what))) (fun (f : Slots) => fun i => AV.frz b (T.types.map Al.row) (f i)) tr2) ?_
        simp only [frz_put, frz_undef]
        rfl
    rintro s t ⟨vT, fvT, rfl, hL⟩
    obtain ⟨fvT_r, fvT_w, fvT_w1, fvT_c, fvT_s, fvT_d⟩ := id fvT
    refine gor hL ?_; (repeat (clear hL; intro t hL; refine gor hL ?_))
    refine pjoinO (fun s u => ∃ vP, VF vP (T.procs.map Pc.row) ∧ s = put (put (put (fun _ => .undef) (some 6) (ptrAt p6)) (some 5) (ptrAt p5)) (some 1) (.d (.int .u8 what)) ∧ Lay st [.box p6 [.d (.str (T.name)), .d (.int .i64 (T.number)), .d (.int .i64 T.version), vT, .d (.sl (T.faults.map Fl.row)), vP], .box p5 [.d (.str (T.name)), .d (.int .i64 (T.number)), .d (.int .i64 T.version), .d (.sl (T.types.map Al.row)), .d (.sl (T.faults.map Fl.row)), .d (.sl (T.procs.map Pc.row))]] u) ?_ ?_
    · skip
      refine po_appBL hL rfl rfl rfl hr3 (by simp; omega) (fun h0 hL => ?_) (fun b cap t hne0 hcap hL => ?_)
      · skip
        refine gor hL ?_; (repeat (clear hL; intro t hL; refine gor hL ?_))
        exact ⟨_, _, .refl _ _, .full [], VF.nil h0, tr2, hL.pk⟩
      · skip
        refine gor hL ?_; (repeat (clear hL; intro t hL; refine gor hL ?_))
        have ec : (AV.bsl b 0 (T.procs.map Pc.row).length cap).cells = [.bsl b 0 (T.procs.map Pc.row).length cap] := rfl
        have e1 : AV.frz1 b (T.procs.map Pc.row) (.bsl b 0 (T.procs.map Pc.row).length cap) = .d (.sl (T.procs.map Pc.row)) := if_pos ⟨rfl, rfl, rfl⟩
        have f0_e := fvT.frz1 b (T.procs.map Pc.row)
        obtain ⟨t2, hz, hL⟩ := (hL.rem (x := .box b ((T.procs.map Pc.row).flatten.map .d ++ List.replicate ((cap - (T.procs.map Pc.row).length) * 12) .undef)) (by repeat (first | exact Rem.head | apply Rem.tail))).frz hr3 (cells_weak _ _)
        simp only [List.map_cons, List.map_nil, Item.frz, ec, List.cons_append, List.nil_append, e1, f0_e, pvf] at hL
        refine ⟨_, t2, hz _, .d (.sl (T.procs.map Pc.row)), VF.sl _, ?_, hL.pk⟩
        refine Eq.trans (congrArg (a₂ := put (put (put (fun _ => .undef) (some 6) (ptrAt p6)) (some 5) (ptrAt p5)) (some 1) (.d (.int .u8 what))) (fun (f : Slots) => fun i => AV.frz b (T.procs.map Pc.row) (f i)) tr2) ?_
        simp only [frz_put, frz_undef]
        rfl
    rintro s t ⟨vP, fvP, rfl, hL⟩
    obtain ⟨fvP_r, fvP_w, fvP_w1, fvP_c, fvP_s, fvP_d⟩ := id fvP
    refine gor hL ?_; (repeat (clear hL; intro t hL; refine gor hL ?_))
    refine pjoinF (fun s u => ∃ (T' : TB) (tn : Bool) (w1 w2 w3 : AV), s = put (put (put (fun _ => .undef) (some 7) (b2 tn)) (some 6) (ptrAt p6)) (some 5) (ptrAt p5) ∧ Lay st [.box p6 [.d (.str T'.name), .d (.int .i64 T'.number), .d (.int .i64 T'.version), w1, w2, w3], .box p5 [.d (.str (T.name)), .d (.int .i64 (T.number)), .d (.int .i64 T.version), .d (.sl (T.types.map Al.row)), .d (.sl (T.faults.map Fl.row)), .d (.sl (T.procs.map Pc.row))]] u ∧ w1.weak1 = .d (.sl (T'.types.map Al.row)) ∧ w2.weak1 = .d (.sl (T'.faults.map Fl.row)) ∧ w3.weak1 = .d (.sl (T'.procs.map Pc.row)) ∧ T'.fit ∧ T.alike T' = !tn ∧ T'.alike T = !tn) ?_ (fun s t ⟨T', tn, w1, w2, w3, e, hL, k1, k2, k3, k4, k5, k6⟩ => e ▸ alikeEnd hQ hL k1 k2 k3 htf k4 k5 k6)
    refine gor hL ?_; (repeat (clear hL; intro t hL; refine gor hL ?_))
    refine gnm ?_; rw [hw]
    refine gor hL ?_; (repeat (clear hL; intro t hL; refine gor hL ?_))
    refine gnm ?_; (try simp only [pvz])
    refine gor hL ?_; (repeat (clear hL; intro t hL; refine gor hL ?_))
    refine po rfl (if_pos (show T.name.size + (bs [120]).size ≤ 9223372036854775807 by rw [show (bs [120]).size = 1 from rfl]; omega)) ?_
    refine gor hL ?_; (repeat (clear hL; intro t hL; refine gor hL ?_))
    exact ⟨_, _, .refl _ _, (TB.mk (T.name ++ bs [120]) (T.number) T.version (T.types) (T.faults) (T.procs)), true, vT, .d (.sl (T.faults.map Fl.row)), vP, tr2, hL.pk, fvT_w1, rfl, fvP_w1, fit_name htf (by have := htf2; rw [ByteArray.size_append, show (bs [120]).size = 1 from rfl]; omega), (alike_name T).1, (alike_name T).2⟩
  · -- 1
    have hw : what.tmod 9 = 1 := by rw [IntWalk.rem_in _ _ (by omega)]; exact hcase
    refine gor hL ?_; (repeat (clear hL; intro t hL; refine gor hL ?_))
    refine pjoinO (fun s u => ∃ vT, VF vT (T.types.map Al.row) ∧ s = put (put (put (fun _ => .undef) (some 6) (ptrAt p6)) (some 5) (ptrAt p5)) (some 1) (.d (.int .u8 what)) ∧ Lay st [.box p6 [.d (.str (T.name)), .d (.int .i64 (T.number)), .d (.int .i64 T.version), vT, .d (.sl (T.faults.map Fl.row)), .d (.sl (T.procs.map Pc.row))], .box p5 [.d (.str (T.name)), .d (.int .i64 (T.number)), .d (.int .i64 T.version), .d (.sl (T.types.map Al.row)), .d (.sl (T.faults.map Fl.row)), .d (.sl (T.procs.map Pc.row))]] u) ?_ ?_
    · skip
      refine po_appBL hL rfl rfl rfl hr1 (by simp; omega) (fun h0 hL => ?_) (fun b cap t hne0 hcap hL => ?_)
      · skip
        refine gor hL ?_; (repeat (clear hL; intro t hL; refine gor hL ?_))
        exact ⟨_, _, .refl _ _, .full [], VF.nil h0, tr2, hL.pk⟩
      · skip
        refine gor hL ?_; (repeat (clear hL; intro t hL; refine gor hL ?_))
        have ec : (AV.bsl b 0 (T.types.map Al.row).length cap).cells = [.bsl b 0 (T.types.map Al.row).length cap] := rfl
        have e1 : AV.frz1 b (T.types.map Al.row) (.bsl b 0 (T.types.map Al.row).length cap) = .d (.sl (T.types.map Al.row)) := if_pos ⟨rfl, rfl, rfl⟩
        obtain ⟨t2, hz, hL⟩ := (hL.rem (x := .box b ((T.types.map Al.row).flatten.map .d ++ List.replicate ((cap - (T.types.map Al.row).length) * 5) .undef)) (by repeat (first | exact Rem.head | apply Rem.tail))).frz hr1 (cells_weak _ _)
        simp only [List.map_cons, List.map_nil, Item.frz, ec, List.cons_append, List.nil_append, e1, pvf] at hL
        refine ⟨_, t2, hz _, .d (.sl (T.types.map Al.row)), VF.sl _, ?_, hL.pk⟩
        refine Eq.trans (congrArg (a₂ := put (put (put (fun _ => .undef) (some 6) (ptrAt p6)) (some 5) (ptrAt p5)) (some 1) (.d (.int .u8 what))) (fun (f : Slots) => fun i => AV.frz b (T.types.map Al.row) (f i)) tr2) ?_
        simp only [frz_put, frz_undef]
        rfl
    rintro s t ⟨vT, fvT, rfl, hL⟩
    obtain ⟨fvT_r, fvT_w, fvT_w1, fvT_c, fvT_s, fvT_d⟩ := id fvT
    refine gor hL ?_; (repeat (clear hL; intro t hL; refine gor hL ?_))
    refine pjoinO (fun s u => ∃ vP, VF vP (T.procs.map Pc.row) ∧ s = put (put (put (fun _ => .undef) (some 6) (ptrAt p6)) (some 5) (ptrAt p5)) (some 1) (.d (.int .u8 what)) ∧ Lay st [.box p6 [.d (.str (T.name)), .d (.int .i64 (T.number)), .d (.int .i64 T.version), vT, .d (.sl (T.faults.map Fl.row)), vP], .box p5 [.d (.str (T.name)), .d (.int .i64 (T.number)), .d (.int .i64 T.version), .d (.sl (T.types.map Al.row)), .d (.sl (T.faults.map Fl.row)), .d (.sl (T.procs.map Pc.row))]] u) ?_ ?_
    · skip
      refine po_appBL hL rfl rfl rfl hr3 (by simp; omega) (fun h0 hL => ?_) (fun b cap t hne0 hcap hL => ?_)
      · skip
        refine gor hL ?_; (repeat (clear hL; intro t hL; refine gor hL ?_))
        exact ⟨_, _, .refl _ _, .full [], VF.nil h0, tr2, hL.pk⟩
      · skip
        refine gor hL ?_; (repeat (clear hL; intro t hL; refine gor hL ?_))
        have ec : (AV.bsl b 0 (T.procs.map Pc.row).length cap).cells = [.bsl b 0 (T.procs.map Pc.row).length cap] := rfl
        have e1 : AV.frz1 b (T.procs.map Pc.row) (.bsl b 0 (T.procs.map Pc.row).length cap) = .d (.sl (T.procs.map Pc.row)) := if_pos ⟨rfl, rfl, rfl⟩
        have f0_e := fvT.frz1 b (T.procs.map Pc.row)
        obtain ⟨t2, hz, hL⟩ := (hL.rem (x := .box b ((T.procs.map Pc.row).flatten.map .d ++ List.replicate ((cap - (T.procs.map Pc.row).length) * 12) .undef)) (by repeat (first | exact Rem.head | apply Rem.tail))).frz hr3 (cells_weak _ _)
        simp only [List.map_cons, List.map_nil, Item.frz, ec, List.cons_append, List.nil_append, e1, f0_e, pvf] at hL
        refine ⟨_, t2, hz _, .d (.sl (T.procs.map Pc.row)), VF.sl _, ?_, hL.pk⟩
        refine Eq.trans (congrArg (a₂ := put (put (put (fun _ => .undef) (some 6) (ptrAt p6)) (some 5) (ptrAt p5)) (some 1) (.d (.int .u8 what))) (fun (f : Slots) => fun i => AV.frz b (T.procs.map Pc.row) (f i)) tr2) ?_
        simp only [frz_put, frz_undef]
        rfl
    rintro s t ⟨vP, fvP, rfl, hL⟩
    obtain ⟨fvP_r, fvP_w, fvP_w1, fvP_c, fvP_s, fvP_d⟩ := id fvP
    refine gor hL ?_; (repeat (clear hL; intro t hL; refine gor hL ?_))
    refine pjoinF (fun s u => ∃ (T' : TB) (tn : Bool) (w1 w2 w3 : AV), s = put (put (put (fun _ => .undef) (some 7) (b2 tn)) (some 6) (ptrAt p6)) (some 5) (ptrAt p5) ∧ Lay st [.box p6 [.d (.str T'.name), .d (.int .i64 T'.number), .d (.int .i64 T'.version), w1, w2, w3], .box p5 [.d (.str (T.name)), .d (.int .i64 (T.number)), .d (.int .i64 T.version), .d (.sl (T.types.map Al.row)), .d (.sl (T.faults.map Fl.row)), .d (.sl (T.procs.map Pc.row))]] u ∧ w1.weak1 = .d (.sl (T'.types.map Al.row)) ∧ w2.weak1 = .d (.sl (T'.faults.map Fl.row)) ∧ w3.weak1 = .d (.sl (T'.procs.map Pc.row)) ∧ T'.fit ∧ T.alike T' = !tn ∧ T'.alike T = !tn) ?_ (fun s t ⟨T', tn, w1, w2, w3, e, hL, k1, k2, k3, k4, k5, k6⟩ => e ▸ alikeEnd hQ hL k1 k2 k3 htf k4 k5 k6)
    refine gor hL ?_; (repeat (clear hL; intro t hL; refine gor hL ?_))
    refine gnm ?_; rw [hw]
    refine gor hL ?_; (repeat (clear hL; intro t hL; refine gor hL ?_))
    refine gnm ?_; (try simp only [pvz])
    refine gor hL ?_; (repeat (clear hL; intro t hL; refine gor hL ?_))
    refine gnm ?_; (try simp only [pvz])
    refine gor hL ?_; (repeat (clear hL; intro t hL; refine gor hL ?_))
    exact ⟨_, _, .refl _ _, (TB.mk (T.name) (IntKind.i64.wrap (T.number + 1)) T.version (T.types) (T.faults) (T.procs)), true, vT, .d (.sl (T.faults.map Fl.row)), vP, tr2, hL.pk, fvT_w1, rfl, fvP_w1, fit_number htf _, (alike_number T).1, (alike_number T).2⟩
  · -- 2
    have hw : what.tmod 9 = 2 := by rw [IntWalk.rem_in _ _ (by omega)]; exact hcase
    refine gor hL ?_; (repeat (clear hL; intro t hL; refine gor hL ?_))
    refine pjoinO (fun s u => ∃ vT, s = put (put (put (fun _ => .undef) (some 6) (ptrAt p6)) (some 5) (ptrAt p5)) (some 1) (.d (.int .u8 what)) ∧ Lay st [.box p6 [.d (.str (T.name)), .d (.int .i64 (T.number)), .d (.int .i64 T.version), vT, .d (.sl (T.faults.map Fl.row)), .d (.sl (T.procs.map Pc.row))], .box p5 [.d (.str (T.name)), .d (.int .i64 (T.number)), .d (.int .i64 T.version), .d (.sl (T.types.map Al.row)), .d (.sl (T.faults.map Fl.row)), .d (.sl (T.procs.map Pc.row))], .vec vT (T.types.map Al.row) 5] u) ?_ ?_
    · skip
      refine po_appBL hL rfl rfl rfl hr1 (by simp; omega) (fun h0 hL => ?_) (fun b cap t hne0 hcap hL => ?_)
      · skip
        refine gor hL ?_; (repeat (clear hL; intro t hL; refine gor hL ?_))
        refine ⟨_, _, .refl _ _, .full [], tr2, ?_⟩
        replace hL := hL.full [] 5
        rw [h0] at hL ⊢
        exact hL.pk
      · skip
        refine gor hL ?_; (repeat (clear hL; intro t hL; refine gor hL ?_))
        have ec : (AV.bsl b 0 (T.types.map Al.row).length cap).cells = [.bsl b 0 (T.types.map Al.row).length cap] := rfl
        have e1 : AV.own1 b (T.types.map Al.row) cap (.bsl b 0 (T.types.map Al.row).length cap) = .own b (T.types.map Al.row) cap := if_pos ⟨rfl, rfl, rfl, rfl⟩
        obtain ⟨t2, hz, hL⟩ := (hL.rem (x := .box b ((T.types.map Al.row).flatten.map .d ++ List.replicate ((cap - (T.types.map Al.row).length) * 5) .undef)) (by repeat (first | exact Rem.head | apply Rem.tail))).own hr1 (cells_weak _ _) (cells_len hr1 hcap) hcap
        simp only [List.map_cons, List.map_nil, Item.own, ec, List.cons_append, List.nil_append, e1, pvo] at hL
        refine ⟨_, t2, hz _, .own b (T.types.map Al.row) cap, ?_, hL.pk⟩
        refine Eq.trans (congrArg (a₂ := put (put (put (fun _ => .undef) (some 6) (ptrAt p6)) (some 5) (ptrAt p5)) (some 1) (.d (.int .u8 what))) (fun (f : Slots) => fun i => AV.ownA b (T.types.map Al.row) cap (f i)) tr2) ?_
        simp only [own_put, own_undef]
        rfl
    rintro s t ⟨vT, rfl, hL⟩
    have fvT := hL.vk vT
    obtain ⟨fvT_r, fvT_w, fvT_w1, fvT_c, fvT_s, fvT_d⟩ := id fvT
    refine gor hL ?_; (repeat (clear hL; intro t hL; refine gor hL ?_))
    refine pjoinO (fun s u => ∃ vP, VF vP (T.procs.map Pc.row) ∧ s = put (put (put (fun _ => .undef) (some 6) (ptrAt p6)) (some 5) (ptrAt p5)) (some 1) (.d (.int .u8 what)) ∧ Lay st [.box p6 [.d (.str (T.name)), .d (.int .i64 (T.number)), .d (.int .i64 T.version), vT, .d (.sl (T.faults.map Fl.row)), vP], .box p5 [.d (.str (T.name)), .d (.int .i64 (T.number)), .d (.int .i64 T.version), .d (.sl (T.types.map Al.row)), .d (.sl (T.faults.map Fl.row)), .d (.sl (T.procs.map Pc.row))], .vec vT (T.types.map Al.row) 5] u) ?_ ?_
    · skip
      refine po_appBL hL rfl rfl rfl hr3 (by simp; omega) (fun h0 hL => ?_) (fun b cap t hne0 hcap hL => ?_)
      · skip
        refine gor hL ?_; (repeat (clear hL; intro t hL; refine gor hL ?_))
        exact ⟨_, _, .refl _ _, .full [], VF.nil h0, tr2, hL.pk⟩
      · skip
        refine gor hL ?_; (repeat (clear hL; intro t hL; refine gor hL ?_))
        have ec : (AV.bsl b 0 (T.procs.map Pc.row).length cap).cells = [.bsl b 0 (T.procs.map Pc.row).length cap] := rfl
        have e1 : AV.frz1 b (T.procs.map Pc.row) (.bsl b 0 (T.procs.map Pc.row).length cap) = .d (.sl (T.procs.map Pc.row)) := if_pos ⟨rfl, rfl, rfl⟩
        have f0_e := fvT.frz1 b (T.procs.map Pc.row)
        obtain ⟨t2, hz, hL⟩ := (hL.rem (x := .box b ((T.procs.map Pc.row).flatten.map .d ++ List.replicate ((cap - (T.procs.map Pc.row).length) * 12) .undef)) (by repeat (first | exact Rem.head | apply Rem.tail))).frz hr3 (cells_weak _ _)
        simp only [List.map_cons, List.map_nil, Item.frz, ec, List.cons_append, List.nil_append, e1, f0_e, pvf] at hL
        refine ⟨_, t2, hz _, .d (.sl (T.procs.map Pc.row)), VF.sl _, ?_, hL.pk⟩
        refine Eq.trans (congrArg (a₂ := put (put (put (fun _ => .undef) (some 6) (ptrAt p6)) (some 5) (ptrAt p5)) (some 1) (.d (.int .u8 what))) (fun (f : Slots) => fun i => AV.frz b (T.procs.map Pc.row) (f i)) tr2) ?_
        simp only [frz_put, frz_undef]
        rfl
    rintro s t ⟨vP, fvP, rfl, hL⟩
    obtain ⟨fvP_r, fvP_w, fvP_w1, fvP_c, fvP_s, fvP_d⟩ := id fvP
    refine gor hL ?_; (repeat (clear hL; intro t hL; refine gor hL ?_))
    refine pjoinF (fun s u => ∃ (T' : TB) (tn : Bool) (w1 w2 w3 : AV), s = put (put (put (fun _ => .undef) (some 7) (b2 tn)) (some 6) (ptrAt p6)) (some 5) (ptrAt p5) ∧ Lay st [.box p6 [.d (.str T'.name), .d (.int .i64 T'.number), .d (.int .i64 T'.version), w1, w2, w3], .box p5 [.d (.str (T.name)), .d (.int .i64 (T.number)), .d (.int .i64 T.version), .d (.sl (T.types.map Al.row)), .d (.sl (T.faults.map Fl.row)), .d (.sl (T.procs.map Pc.row))]] u ∧ w1.weak1 = .d (.sl (T'.types.map Al.row)) ∧ w2.weak1 = .d (.sl (T'.faults.map Fl.row)) ∧ w3.weak1 = .d (.sl (T'.procs.map Pc.row)) ∧ T'.fit ∧ T.alike T' = !tn ∧ T'.alike T = !tn) ?_ (fun s t ⟨T', tn, w1, w2, w3, e, hL, k1, k2, k3, k4, k5, k6⟩ => e ▸ alikeEnd hQ hL k1 k2 k3 htf k4 k5 k6)
    refine gor hL ?_; (repeat (clear hL; intro t hL; refine gor hL ?_))
    refine gnm ?_; rw [hw]
    refine gor hL ?_; (repeat (clear hL; intro t hL; refine gor hL ?_))
    refine gnm ?_; (try simp only [pvz])
    refine gor hL ?_; (repeat (clear hL; intro t hL; refine gor hL ?_))
    refine gnm ?_; (try simp only [pvz])
    refine gor hL ?_; (repeat (clear hL; intro t hL; refine gor hL ?_))
    refine gnm ?_; (try simp only [pvz])
    refine gor hL ?_; (repeat (clear hL; intro t hL; refine gor hL ?_))
    refine po_appA hL hr1 ?_ ?_; (· simp; omega); clear hL; intro v' t f' hL; obtain ⟨f'_r, f'_w, f'_w1, f'_c, f'_s, f'_d⟩ := id f'
    rw [show (T.types.map Al.row) ++ [[.str (bs [120]), .int .u8 0, .int .i64 0, .sl [], .sl []]] = (T.types ++ [(⟨xN, KT.zero⟩ : Al)]).map Al.row by rw [List.map_append]; rfl] at hL f'_w1
    refine gor hL ?_; (repeat (clear hL; intro t hL; refine gor hL ?_))
    have hal := alike_types T (more_ne (e := Al.same) T.types ⟨xN, KT.zero⟩)
    exact ⟨_, _, .refl _ _, (TB.mk (T.name) (T.number) T.version (T.types ++ [⟨xN, KT.zero⟩]) (T.faults) (T.procs)), true, v', .d (.sl (T.faults.map Fl.row)), vP, tr2, hL.pk, f'_w1, rfl, fvP_w1, fit_more htf hl4.1, hal.1, hal.2⟩
  · -- 3
    have hw : what.tmod 9 = 3 := by rw [IntWalk.rem_in _ _ (by omega)]; exact hcase
    refine gor hL ?_; (repeat (clear hL; intro t hL; refine gor hL ?_))
    refine pjoinO (fun s u => ∃ vT, VF vT (T.types.map Al.row) ∧ s = put (put (put (fun _ => .undef) (some 6) (ptrAt p6)) (some 5) (ptrAt p5)) (some 1) (.d (.int .u8 what)) ∧ Lay st [.box p6 [.d (.str (T.name)), .d (.int .i64 (T.number)), .d (.int .i64 T.version), vT, .d (.sl (T.faults.map Fl.row)), .d (.sl (T.procs.map Pc.row))], .box p5 [.d (.str (T.name)), .d (.int .i64 (T.number)), .d (.int .i64 T.version), .d (.sl (T.types.map Al.row)), .d (.sl (T.faults.map Fl.row)), .d (.sl (T.procs.map Pc.row))]] u) ?_ ?_
    · skip
      refine po_appBL hL rfl rfl rfl hr1 (by simp; omega) (fun h0 hL => ?_) (fun b cap t hne0 hcap hL => ?_)
      · skip
        refine gor hL ?_; (repeat (clear hL; intro t hL; refine gor hL ?_))
        exact ⟨_, _, .refl _ _, .full [], VF.nil h0, tr2, hL.pk⟩
      · skip
        refine gor hL ?_; (repeat (clear hL; intro t hL; refine gor hL ?_))
        have ec : (AV.bsl b 0 (T.types.map Al.row).length cap).cells = [.bsl b 0 (T.types.map Al.row).length cap] := rfl
        have e1 : AV.frz1 b (T.types.map Al.row) (.bsl b 0 (T.types.map Al.row).length cap) = .d (.sl (T.types.map Al.row)) := if_pos ⟨rfl, rfl, rfl⟩
        obtain ⟨t2, hz, hL⟩ := (hL.rem (x := .box b ((T.types.map Al.row).flatten.map .d ++ List.replicate ((cap - (T.types.map Al.row).length) * 5) .undef)) (by repeat (first | exact Rem.head | apply Rem.tail))).frz hr1 (cells_weak _ _)
        simp only [List.map_cons, List.map_nil, Item.frz, ec, List.cons_append, List.nil_append, e1, pvf] at hL
        refine ⟨_, t2, hz _, .d (.sl (T.types.map Al.row)), VF.sl _, ?_, hL.pk⟩
        refine Eq.trans (congrArg (a₂ := put (put (put (fun _ => .undef) (some 6) (ptrAt p6)) (some 5) (ptrAt p5)) (some 1) (.d (.int .u8 what))) (fun (f : Slots) => fun i => AV.frz b (T.types.map Al.row) (f i)) tr2) ?_
        simp only [frz_put, frz_undef]
        rfl
    rintro s t ⟨vT, fvT, rfl, hL⟩
    obtain ⟨fvT_r, fvT_w, fvT_w1, fvT_c, fvT_s, fvT_d⟩ := id fvT
    refine gor hL ?_; (repeat (clear hL; intro t hL; refine gor hL ?_))
    refine pjoinO (fun s u => ∃ vP, VF vP (T.procs.map Pc.row) ∧ s = put (put (put (fun _ => .undef) (some 6) (ptrAt p6)) (some 5) (ptrAt p5)) (some 1) (.d (.int .u8 what)) ∧ Lay st [.box p6 [.d (.str (T.name)), .d (.int .i64 (T.number)), .d (.int .i64 T.version), vT, .d (.sl (T.faults.map Fl.row)), vP], .box p5 [.d (.str (T.name)), .d (.int .i64 (T.number)), .d (.int .i64 T.version), .d (.sl (T.types.map Al.row)), .d (.sl (T.faults.map Fl.row)), .d (.sl (T.procs.map Pc.row))]] u) ?_ ?_
    · skip
      refine po_appBL hL rfl rfl rfl hr3 (by simp; omega) (fun h0 hL => ?_) (fun b cap t hne0 hcap hL => ?_)
      · skip
        refine gor hL ?_; (repeat (clear hL; intro t hL; refine gor hL ?_))
        exact ⟨_, _, .refl _ _, .full [], VF.nil h0, tr2, hL.pk⟩
      · skip
        refine gor hL ?_; (repeat (clear hL; intro t hL; refine gor hL ?_))
        have ec : (AV.bsl b 0 (T.procs.map Pc.row).length cap).cells = [.bsl b 0 (T.procs.map Pc.row).length cap] := rfl
        have e1 : AV.frz1 b (T.procs.map Pc.row) (.bsl b 0 (T.procs.map Pc.row).length cap) = .d (.sl (T.procs.map Pc.row)) := if_pos ⟨rfl, rfl, rfl⟩
        have f0_e := fvT.frz1 b (T.procs.map Pc.row)
        obtain ⟨t2, hz, hL⟩ := (hL.rem (x := .box b ((T.procs.map Pc.row).flatten.map .d ++ List.replicate ((cap - (T.procs.map Pc.row).length) * 12) .undef)) (by repeat (first | exact Rem.head | apply Rem.tail))).frz hr3 (cells_weak _ _)
        simp only [List.map_cons, List.map_nil, Item.frz, ec, List.cons_append, List.nil_append, e1, f0_e, pvf] at hL
        refine ⟨_, t2, hz _, .d (.sl (T.procs.map Pc.row)), VF.sl _, ?_, hL.pk⟩
        refine Eq.trans (congrArg (a₂ := put (put (put (fun _ => .undef) (some 6) (ptrAt p6)) (some 5) (ptrAt p5)) (some 1) (.d (.int .u8 what))) (fun (f : Slots) => fun i => AV.frz b (T.procs.map Pc.row) (f i)) tr2) ?_
        simp only [frz_put, frz_undef]
        rfl
    rintro s t ⟨vP, fvP, rfl, hL⟩
    obtain ⟨fvP_r, fvP_w, fvP_w1, fvP_c, fvP_s, fvP_d⟩ := id fvP
    refine gor hL ?_; (repeat (clear hL; intro t hL; refine gor hL ?_))
    refine pjoinF (fun s u => ∃ (T' : TB) (tn : Bool) (w1 w2 w3 : AV), s = put (put (put (fun _ => .undef) (some 7) (b2 tn)) (some 6) (ptrAt p6)) (some 5) (ptrAt p5) ∧ Lay st [.box p6 [.d (.str T'.name), .d (.int .i64 T'.number), .d (.int .i64 T'.version), w1, w2, w3], .box p5 [.d (.str (T.name)), .d (.int .i64 (T.number)), .d (.int .i64 T.version), .d (.sl (T.types.map Al.row)), .d (.sl (T.faults.map Fl.row)), .d (.sl (T.procs.map Pc.row))]] u ∧ w1.weak1 = .d (.sl (T'.types.map Al.row)) ∧ w2.weak1 = .d (.sl (T'.faults.map Fl.row)) ∧ w3.weak1 = .d (.sl (T'.procs.map Pc.row)) ∧ T'.fit ∧ T.alike T' = !tn ∧ T'.alike T = !tn) ?_ (fun s t ⟨T', tn, w1, w2, w3, e, hL, k1, k2, k3, k4, k5, k6⟩ => e ▸ alikeEnd hQ hL k1 k2 k3 htf k4 k5 k6)
    refine gor hL ?_; (repeat (clear hL; intro t hL; refine gor hL ?_))
    refine gnm ?_; rw [hw]
    refine gor hL ?_; (repeat (clear hL; intro t hL; refine gor hL ?_))
    refine gnm ?_; (try simp only [pvz])
    refine gor hL ?_; (repeat (clear hL; intro t hL; refine gor hL ?_))
    refine gnm ?_; (try simp only [pvz])
    refine gor hL ?_; (repeat (clear hL; intro t hL; refine gor hL ?_))
    refine gnm ?_; (try simp only [pvz])
    refine gor hL ?_; (repeat (clear hL; intro t hL; refine gor hL ?_))
    refine gnm ?_; (try simp only [pvz])
    refine gor hL ?_; (repeat (clear hL; intro t hL; refine gor hL ?_))
    replace hL := hL.full [] 2
    refine po_appA (rows := []) (hn := hr2) hL (fun r h => (by cases h)) ?_ ?_
    · simp; omega
    clear hL; intro v1 t g1 hL
    rw [List.nil_append] at hL g1
    refine gor hL ?_; (repeat (clear hL; intro t hL; refine gor hL ?_))
    refine po_appA hL hr2 ?_ ?_; (· simp; omega); clear hL; intro v' t f' hL; obtain ⟨f'_r, f'_w, f'_w1, f'_c, f'_s, f'_d⟩ := id f'
    rw [show (T.faults.map Fl.row) ++ [[.str (bs [120]), .int .i64 0]] = (T.faults ++ [(⟨xN, 0⟩ : Fl)]).map Fl.row by rw [List.map_append]; rfl] at hL f'_w1
    refine gor hL ?_; (repeat (clear hL; intro t hL; refine gor hL ?_))
    have hal := alike_faults T (more_ne (e := Fl.same) T.faults ⟨xN, 0⟩)
    exact ⟨_, _, .refl _ _, (TB.mk (T.name) (T.number) T.version (T.types) (T.faults ++ [⟨xN, 0⟩]) (T.procs)), true, vT, v', vP, tr2, hL.pk, fvT_w1, f'_w1, fvP_w1, fit_fault htf hl4.2.1 (by decide), hal.1, hal.2⟩
  · -- 4
    have hw : what.tmod 9 = 4 := by rw [IntWalk.rem_in _ _ (by omega)]; exact hcase
    refine gor hL ?_; (repeat (clear hL; intro t hL; refine gor hL ?_))
    refine pjoinO (fun s u => ∃ vT, VF vT (T.types.map Al.row) ∧ s = put (put (put (fun _ => .undef) (some 6) (ptrAt p6)) (some 5) (ptrAt p5)) (some 1) (.d (.int .u8 what)) ∧ Lay st [.box p6 [.d (.str (T.name)), .d (.int .i64 (T.number)), .d (.int .i64 T.version), vT, .d (.sl (T.faults.map Fl.row)), .d (.sl (T.procs.map Pc.row))], .box p5 [.d (.str (T.name)), .d (.int .i64 (T.number)), .d (.int .i64 T.version), .d (.sl (T.types.map Al.row)), .d (.sl (T.faults.map Fl.row)), .d (.sl (T.procs.map Pc.row))]] u) ?_ ?_
    · skip
      refine po_appBL hL rfl rfl rfl hr1 (by simp; omega) (fun h0 hL => ?_) (fun b cap t hne0 hcap hL => ?_)
      · skip
        refine gor hL ?_; (repeat (clear hL; intro t hL; refine gor hL ?_))
        exact ⟨_, _, .refl _ _, .full [], VF.nil h0, tr2, hL.pk⟩
      · skip
        refine gor hL ?_; (repeat (clear hL; intro t hL; refine gor hL ?_))
        have ec : (AV.bsl b 0 (T.types.map Al.row).length cap).cells = [.bsl b 0 (T.types.map Al.row).length cap] := rfl
        have e1 : AV.frz1 b (T.types.map Al.row) (.bsl b 0 (T.types.map Al.row).length cap) = .d (.sl (T.types.map Al.row)) := if_pos ⟨rfl, rfl, rfl⟩
        obtain ⟨t2, hz, hL⟩ := (hL.rem (x := .box b ((T.types.map Al.row).flatten.map .d ++ List.replicate ((cap - (T.types.map Al.row).length) * 5) .undef)) (by repeat (first | exact Rem.head | apply Rem.tail))).frz hr1 (cells_weak _ _)
        simp only [List.map_cons, List.map_nil, Item.frz, ec, List.cons_append, List.nil_append, e1, pvf] at hL
        refine ⟨_, t2, hz _, .d (.sl (T.types.map Al.row)), VF.sl _, ?_, hL.pk⟩
        refine Eq.trans (congrArg (a₂ := put (put (put (fun _ => .undef) (some 6) (ptrAt p6)) (some 5) (ptrAt p5)) (some 1) (.d (.int .u8 what))) (fun (f : Slots) => fun i => AV.frz b (T.types.map Al.row) (f i)) tr2) ?_
        simp only [frz_put, frz_undef]
        rfl
    rintro s t ⟨vT, fvT, rfl, hL⟩
    obtain ⟨fvT_r, fvT_w, fvT_w1, fvT_c, fvT_s, fvT_d⟩ := id fvT
    refine gor hL ?_; (repeat (clear hL; intro t hL; refine gor hL ?_))
    refine pjoinO (fun s u => ∃ vP, s = put (put (put (fun _ => .undef) (some 6) (ptrAt p6)) (some 5) (ptrAt p5)) (some 1) (.d (.int .u8 what)) ∧ Lay st [.box p6 [.d (.str (T.name)), .d (.int .i64 (T.number)), .d (.int .i64 T.version), vT, .d (.sl (T.faults.map Fl.row)), vP], .box p5 [.d (.str (T.name)), .d (.int .i64 (T.number)), .d (.int .i64 T.version), .d (.sl (T.types.map Al.row)), .d (.sl (T.faults.map Fl.row)), .d (.sl (T.procs.map Pc.row))], .vec vP (T.procs.map Pc.row) 12] u) ?_ ?_
    · skip
      refine po_appBL hL rfl rfl rfl hr3 (by simp; omega) (fun h0 hL => ?_) (fun b cap t hne0 hcap hL => ?_)
      · skip
        refine gor hL ?_; (repeat (clear hL; intro t hL; refine gor hL ?_))
        refine ⟨_, _, .refl _ _, .full [], tr2, ?_⟩
        replace hL := hL.full [] 12
        rw [h0] at hL ⊢
        exact hL.pk
      · skip
        refine gor hL ?_; (repeat (clear hL; intro t hL; refine gor hL ?_))
        have ec : (AV.bsl b 0 (T.procs.map Pc.row).length cap).cells = [.bsl b 0 (T.procs.map Pc.row).length cap] := rfl
        have e1 : AV.own1 b (T.procs.map Pc.row) cap (.bsl b 0 (T.procs.map Pc.row).length cap) = .own b (T.procs.map Pc.row) cap := if_pos ⟨rfl, rfl, rfl, rfl⟩
        have f0_e := fvT.own1 b (T.procs.map Pc.row) cap
        obtain ⟨t2, hz, hL⟩ := (hL.rem (x := .box b ((T.procs.map Pc.row).flatten.map .d ++ List.replicate ((cap - (T.procs.map Pc.row).length) * 12) .undef)) (by repeat (first | exact Rem.head | apply Rem.tail))).own hr3 (cells_weak _ _) (cells_len hr3 hcap) hcap
        simp only [List.map_cons, List.map_nil, Item.own, ec, List.cons_append, List.nil_append, e1, f0_e, pvo] at hL
        refine ⟨_, t2, hz _, .own b (T.procs.map Pc.row) cap, ?_, hL.pk⟩
        refine Eq.trans (congrArg (a₂ := put (put (put (fun _ => .undef) (some 6) (ptrAt p6)) (some 5) (ptrAt p5)) (some 1) (.d (.int .u8 what))) (fun (f : Slots) => fun i => AV.ownA b (T.procs.map Pc.row) cap (f i)) tr2) ?_
        simp only [own_put, own_undef]
        rfl
    rintro s t ⟨vP, rfl, hL⟩
    have fvP := hL.vk vP
    obtain ⟨fvP_r, fvP_w, fvP_w1, fvP_c, fvP_s, fvP_d⟩ := id fvP
    refine gor hL ?_; (repeat (clear hL; intro t hL; refine gor hL ?_))
    refine pjoinF (fun s u => ∃ (T' : TB) (tn : Bool) (w1 w2 w3 : AV), s = put (put (put (fun _ => .undef) (some 7) (b2 tn)) (some 6) (ptrAt p6)) (some 5) (ptrAt p5) ∧ Lay st [.box p6 [.d (.str T'.name), .d (.int .i64 T'.number), .d (.int .i64 T'.version), w1, w2, w3], .box p5 [.d (.str (T.name)), .d (.int .i64 (T.number)), .d (.int .i64 T.version), .d (.sl (T.types.map Al.row)), .d (.sl (T.faults.map Fl.row)), .d (.sl (T.procs.map Pc.row))]] u ∧ w1.weak1 = .d (.sl (T'.types.map Al.row)) ∧ w2.weak1 = .d (.sl (T'.faults.map Fl.row)) ∧ w3.weak1 = .d (.sl (T'.procs.map Pc.row)) ∧ T'.fit ∧ T.alike T' = !tn ∧ T'.alike T = !tn) ?_ (fun s t ⟨T', tn, w1, w2, w3, e, hL, k1, k2, k3, k4, k5, k6⟩ => e ▸ alikeEnd hQ hL k1 k2 k3 htf k4 k5 k6)
    refine gor hL ?_; (repeat (clear hL; intro t hL; refine gor hL ?_))
    refine gnm ?_; rw [hw]
    refine gor hL ?_; (repeat (clear hL; intro t hL; refine gor hL ?_))
    refine gnm ?_; (try simp only [pvz])
    refine gor hL ?_; (repeat (clear hL; intro t hL; refine gor hL ?_))
    refine gnm ?_; (try simp only [pvz])
    refine gor hL ?_; (repeat (clear hL; intro t hL; refine gor hL ?_))
    refine gnm ?_; (try simp only [pvz])
    refine gor hL ?_; (repeat (clear hL; intro t hL; refine gor hL ?_))
    refine gnm ?_; (try simp only [pvz])
    refine gor hL ?_; (repeat (clear hL; intro t hL; refine gor hL ?_))
    refine gnm ?_; (try simp only [pvz])
    refine gor hL ?_; (repeat (clear hL; intro t hL; refine gor hL ?_))
    refine po_appA hL hr3 ?_ ?_; (· simp; omega); clear hL; intro v' t f' hL; obtain ⟨f'_r, f'_w, f'_w1, f'_c, f'_s, f'_d⟩ := id f'
    rw [show (T.procs.map Pc.row) ++ [[.str (bs [120]), .int .i64 0, .int .u8 0, .int .i64 0, .sl [], .sl [], .int .u8 0, .int .i64 0, .sl [], .sl [], .int .u8 0, .int .i64 0]] = (T.procs ++ [(⟨xN, 0, KT.zero, KT.zero, 0, 0⟩ : Pc)]).map Pc.row by rw [List.map_append]; rfl] at hL f'_w1
    refine gor hL ?_; (repeat (clear hL; intro t hL; refine gor hL ?_))
    have hal := alike_procs T (more_ne (e := Pc.same) T.procs ⟨xN, 0, KT.zero, KT.zero, 0, 0⟩)
    exact ⟨_, _, .refl _ _, (TB.mk (T.name) (T.number) T.version (T.types) (T.faults) (T.procs ++ [⟨xN, 0, KT.zero, KT.zero, 0, 0⟩])), true, vT, .d (.sl (T.faults.map Fl.row)), v', tr2, hL.pk, fvT_w1, rfl, f'_w1, fit_procs htf hl4.2.2 (by simp) (by simp; decide) (by simp), hal.1, hal.2⟩
  · -- 5
    have hw : what.tmod 9 = 5 := by rw [IntWalk.rem_in _ _ (by omega)]; exact hcase
    by_cases hl : T.procs = []
    · skip
      refine gor hL ?_; (repeat (clear hL; intro t hL; refine gor hL ?_))
      refine pjoinO (fun s u => ∃ vT, VF vT (T.types.map Al.row) ∧ s = put (put (put (fun _ => .undef) (some 6) (ptrAt p6)) (some 5) (ptrAt p5)) (some 1) (.d (.int .u8 what)) ∧ Lay st [.box p6 [.d (.str (T.name)), .d (.int .i64 (T.number)), .d (.int .i64 T.version), vT, .d (.sl (T.faults.map Fl.row)), .d (.sl (T.procs.map Pc.row))], .box p5 [.d (.str (T.name)), .d (.int .i64 (T.number)), .d (.int .i64 T.version), .d (.sl (T.types.map Al.row)), .d (.sl (T.faults.map Fl.row)), .d (.sl (T.procs.map Pc.row))]] u) ?_ ?_
      · skip
        refine po_appBL hL rfl rfl rfl hr1 (by simp; omega) (fun h0 hL => ?_) (fun b cap t hne0 hcap hL => ?_)
        · skip
          refine gor hL ?_; (repeat (clear hL; intro t hL; refine gor hL ?_))
          exact ⟨_, _, .refl _ _, .full [], VF.nil h0, tr2, hL.pk⟩
        · skip
          refine gor hL ?_; (repeat (clear hL; intro t hL; refine gor hL ?_))
          have ec : (AV.bsl b 0 (T.types.map Al.row).length cap).cells = [.bsl b 0 (T.types.map Al.row).length cap] := rfl
          have e1 : AV.frz1 b (T.types.map Al.row) (.bsl b 0 (T.types.map Al.row).length cap) = .d (.sl (T.types.map Al.row)) := if_pos ⟨rfl, rfl, rfl⟩
          obtain ⟨t2, hz, hL⟩ := (hL.rem (x := .box b ((T.types.map Al.row).flatten.map .d ++ List.replicate ((cap - (T.types.map Al.row).length) * 5) .undef)) (by repeat (first | exact Rem.head | apply Rem.tail))).frz hr1 (cells_weak _ _)
          simp only [List.map_cons, List.map_nil, Item.frz, ec, List.cons_append, List.nil_append, e1, pvf] at hL
          refine ⟨_, t2, hz _, .d (.sl (T.types.map Al.row)), VF.sl _, ?_, hL.pk⟩
          refine Eq.trans (congrArg (a₂ := put (put (put (fun _ => .undef) (some 6) (ptrAt p6)) (some 5) (ptrAt p5)) (some 1) (.d (.int .u8 what))) (fun (f : Slots) => fun i => AV.frz b (T.types.map Al.row) (f i)) tr2) ?_
          simp only [frz_put, frz_undef]
          rfl
      rintro s t ⟨vT, fvT, rfl, hL⟩
      obtain ⟨fvT_r, fvT_w, fvT_w1, fvT_c, fvT_s, fvT_d⟩ := id fvT
      refine gor hL ?_; (repeat (clear hL; intro t hL; refine gor hL ?_))
      refine pjoinO (fun s u => ∃ vP, VF vP (T.procs.map Pc.row) ∧ s = put (put (put (fun _ => .undef) (some 6) (ptrAt p6)) (some 5) (ptrAt p5)) (some 1) (.d (.int .u8 what)) ∧ Lay st [.box p6 [.d (.str (T.name)), .d (.int .i64 (T.number)), .d (.int .i64 T.version), vT, .d (.sl (T.faults.map Fl.row)), vP], .box p5 [.d (.str (T.name)), .d (.int .i64 (T.number)), .d (.int .i64 T.version), .d (.sl (T.types.map Al.row)), .d (.sl (T.faults.map Fl.row)), .d (.sl (T.procs.map Pc.row))]] u) ?_ ?_
      · skip
        refine po_appBL hL rfl rfl rfl hr3 (by simp; omega) (fun h0 hL => ?_) (fun b cap t hne0 hcap hL => ?_)
        · skip
          refine gor hL ?_; (repeat (clear hL; intro t hL; refine gor hL ?_))
          exact ⟨_, _, .refl _ _, .full [], VF.nil h0, tr2, hL.pk⟩
        · skip
          refine gor hL ?_; (repeat (clear hL; intro t hL; refine gor hL ?_))
          have ec : (AV.bsl b 0 (T.procs.map Pc.row).length cap).cells = [.bsl b 0 (T.procs.map Pc.row).length cap] := rfl
          have e1 : AV.frz1 b (T.procs.map Pc.row) (.bsl b 0 (T.procs.map Pc.row).length cap) = .d (.sl (T.procs.map Pc.row)) := if_pos ⟨rfl, rfl, rfl⟩
          have f0_e := fvT.frz1 b (T.procs.map Pc.row)
          obtain ⟨t2, hz, hL⟩ := (hL.rem (x := .box b ((T.procs.map Pc.row).flatten.map .d ++ List.replicate ((cap - (T.procs.map Pc.row).length) * 12) .undef)) (by repeat (first | exact Rem.head | apply Rem.tail))).frz hr3 (cells_weak _ _)
          simp only [List.map_cons, List.map_nil, Item.frz, ec, List.cons_append, List.nil_append, e1, f0_e, pvf] at hL
          refine ⟨_, t2, hz _, .d (.sl (T.procs.map Pc.row)), VF.sl _, ?_, hL.pk⟩
          refine Eq.trans (congrArg (a₂ := put (put (put (fun _ => .undef) (some 6) (ptrAt p6)) (some 5) (ptrAt p5)) (some 1) (.d (.int .u8 what))) (fun (f : Slots) => fun i => AV.frz b (T.procs.map Pc.row) (f i)) tr2) ?_
          simp only [frz_put, frz_undef]
          rfl
      rintro s t ⟨vP, fvP, rfl, hL⟩
      obtain ⟨fvP_r, fvP_w, fvP_w1, fvP_c, fvP_s, fvP_d⟩ := id fvP
      refine gor hL ?_; (repeat (clear hL; intro t hL; refine gor hL ?_))
      refine pjoinF (fun s u => ∃ (T' : TB) (tn : Bool) (w1 w2 w3 : AV), s = put (put (put (fun _ => .undef) (some 7) (b2 tn)) (some 6) (ptrAt p6)) (some 5) (ptrAt p5) ∧ Lay st [.box p6 [.d (.str T'.name), .d (.int .i64 T'.number), .d (.int .i64 T'.version), w1, w2, w3], .box p5 [.d (.str (T.name)), .d (.int .i64 (T.number)), .d (.int .i64 T.version), .d (.sl (T.types.map Al.row)), .d (.sl (T.faults.map Fl.row)), .d (.sl (T.procs.map Pc.row))]] u ∧ w1.weak1 = .d (.sl (T'.types.map Al.row)) ∧ w2.weak1 = .d (.sl (T'.faults.map Fl.row)) ∧ w3.weak1 = .d (.sl (T'.procs.map Pc.row)) ∧ T'.fit ∧ T.alike T' = !tn ∧ T'.alike T = !tn) ?_ (fun s t ⟨T', tn, w1, w2, w3, e, hL, k1, k2, k3, k4, k5, k6⟩ => e ▸ alikeEnd hQ hL k1 k2 k3 htf k4 k5 k6)
      refine gor hL ?_; (repeat (clear hL; intro t hL; refine gor hL ?_))
      refine gnm ?_; rw [hw]
      refine gor hL ?_; (repeat (clear hL; intro t hL; refine gor hL ?_))
      refine gnm ?_; (try simp only [pvz])
      refine gor hL ?_; (repeat (clear hL; intro t hL; refine gor hL ?_))
      refine gnm ?_; (try simp only [pvz])
      refine gor hL ?_; (repeat (clear hL; intro t hL; refine gor hL ?_))
      refine gnm ?_; (try simp only [pvz])
      refine gor hL ?_; (repeat (clear hL; intro t hL; refine gor hL ?_))
      refine gnm ?_; (try simp only [pvz])
      refine gor hL ?_; (repeat (clear hL; intro t hL; refine gor hL ?_))
      refine gnm ?_; (try simp only [pvz])
      refine gor hL ?_; (repeat (clear hL; intro t hL; refine gor hL ?_))
      refine gnm ?_; (try simp only [pvz])
      refine gor hL ?_; (repeat (clear hL; intro t hL; refine gor hL ?_))
      refine pcond_b rfl (fun hpos => ?_) (fun hpos => ?_)
      · simp [hl] at hpos
      refine gor hL ?_; (repeat (clear hL; intro t hL; refine gor hL ?_))
      exact ⟨_, _, .refl _ _, T, _, vT, .d (.sl (T.faults.map Fl.row)), vP, tr2, hL.pk, fvT_w1, rfl, fvP_w1, htf, by rw [alike_self, hpos]; rfl, by rw [alike_self, hpos]; rfl⟩
    · skip
      obtain ⟨y, ys, hl⟩ := List.exists_cons_of_ne_nil hl
      have hne : (T.procs.map Pc.row) ≠ [] := by rw [hl]; simp
      refine gor hL ?_; (repeat (clear hL; intro t hL; refine gor hL ?_))
      refine pjoinO (fun s u => ∃ vT, VF vT (T.types.map Al.row) ∧ s = put (put (put (fun _ => .undef) (some 6) (ptrAt p6)) (some 5) (ptrAt p5)) (some 1) (.d (.int .u8 what)) ∧ Lay st [.box p6 [.d (.str (T.name)), .d (.int .i64 (T.number)), .d (.int .i64 T.version), vT, .d (.sl (T.faults.map Fl.row)), .d (.sl (T.procs.map Pc.row))], .box p5 [.d (.str (T.name)), .d (.int .i64 (T.number)), .d (.int .i64 T.version), .d (.sl (T.types.map Al.row)), .d (.sl (T.faults.map Fl.row)), .d (.sl (T.procs.map Pc.row))]] u) ?_ ?_
      · skip
        refine po_appBL hL rfl rfl rfl hr1 (by simp; omega) (fun h0 hL => ?_) (fun b cap t hne0 hcap hL => ?_)
        · skip
          refine gor hL ?_; (repeat (clear hL; intro t hL; refine gor hL ?_))
          exact ⟨_, _, .refl _ _, .full [], VF.nil h0, tr2, hL.pk⟩
        · skip
          refine gor hL ?_; (repeat (clear hL; intro t hL; refine gor hL ?_))
          have ec : (AV.bsl b 0 (T.types.map Al.row).length cap).cells = [.bsl b 0 (T.types.map Al.row).length cap] := rfl
          have e1 : AV.frz1 b (T.types.map Al.row) (.bsl b 0 (T.types.map Al.row).length cap) = .d (.sl (T.types.map Al.row)) := if_pos ⟨rfl, rfl, rfl⟩
          obtain ⟨t2, hz, hL⟩ := (hL.rem (x := .box b ((T.types.map Al.row).flatten.map .d ++ List.replicate ((cap - (T.types.map Al.row).length) * 5) .undef)) (by repeat (first | exact Rem.head | apply Rem.tail))).frz hr1 (cells_weak _ _)
          simp only [List.map_cons, List.map_nil, Item.frz, ec, List.cons_append, List.nil_append, e1, pvf] at hL
          refine ⟨_, t2, hz _, .d (.sl (T.types.map Al.row)), VF.sl _, ?_, hL.pk⟩
          refine Eq.trans (congrArg (a₂ := put (put (put (fun _ => .undef) (some 6) (ptrAt p6)) (some 5) (ptrAt p5)) (some 1) (.d (.int .u8 what))) (fun (f : Slots) => fun i => AV.frz b (T.types.map Al.row) (f i)) tr2) ?_
          simp only [frz_put, frz_undef]
          rfl
      rintro s t ⟨vT, fvT, rfl, hL⟩
      obtain ⟨fvT_r, fvT_w, fvT_w1, fvT_c, fvT_s, fvT_d⟩ := id fvT
      refine gor hL ?_; (repeat (clear hL; intro t hL; refine gor hL ?_))
      refine pjoinO (fun s u => ∃ b cap, (T.procs.map Pc.row).length ≤ cap ∧ s = put (put (put (fun _ => .undef) (some 6) (ptrAt p6)) (some 5) (ptrAt p5)) (some 1) (.d (.int .u8 what)) ∧ Lay st [.box b ((T.procs.map Pc.row).flatten.map .d ++ List.replicate ((cap - (T.procs.map Pc.row).length) * 12) .undef), .box p6 [.d (.str (T.name)), .d (.int .i64 (T.number)), .d (.int .i64 T.version), vT, .d (.sl (T.faults.map Fl.row)), .bsl b 0 (T.procs.map Pc.row).length cap], .box p5 [.d (.str (T.name)), .d (.int .i64 (T.number)), .d (.int .i64 T.version), .d (.sl (T.types.map Al.row)), .d (.sl (T.faults.map Fl.row)), .d (.sl (T.procs.map Pc.row))]] u) ?_ ?_
      · skip
        refine po_appBL hL rfl rfl rfl hr3 (by simp; omega) (fun h0 hL => ?_) (fun b cap t hne0 hcap hL => ?_)
        · skip
          exact absurd h0 hne
        · skip
          refine gor hL ?_; (repeat (clear hL; intro t hL; refine gor hL ?_))
          have ec : (AV.bsl b 0 (T.procs.map Pc.row).length cap).cells = [.bsl b 0 (T.procs.map Pc.row).length cap] := rfl
          simp only [ec, List.cons_append, List.nil_append] at hL
          exact ⟨_, _, .refl _ _, b, cap, hcap, tr2, hL.pk⟩
      rintro s t ⟨bP, capP, hcapP, rfl, hL⟩
      refine gor hL ?_; (repeat (clear hL; intro t hL; refine gor hL ?_))
      refine pjoinF (fun s u => ∃ (T' : TB) (tn : Bool) (w1 w2 w3 : AV), s = put (put (put (fun _ => .undef) (some 7) (b2 tn)) (some 6) (ptrAt p6)) (some 5) (ptrAt p5) ∧ Lay st [.box p6 [.d (.str T'.name), .d (.int .i64 T'.number), .d (.int .i64 T'.version), w1, w2, w3], .box p5 [.d (.str (T.name)), .d (.int .i64 (T.number)), .d (.int .i64 T.version), .d (.sl (T.types.map Al.row)), .d (.sl (T.faults.map Fl.row)), .d (.sl (T.procs.map Pc.row))]] u ∧ w1.weak1 = .d (.sl (T'.types.map Al.row)) ∧ w2.weak1 = .d (.sl (T'.faults.map Fl.row)) ∧ w3.weak1 = .d (.sl (T'.procs.map Pc.row)) ∧ T'.fit ∧ T.alike T' = !tn ∧ T'.alike T = !tn) ?_ (fun s t ⟨T', tn, w1, w2, w3, e, hL, k1, k2, k3, k4, k5, k6⟩ => e ▸ alikeEnd hQ hL k1 k2 k3 htf k4 k5 k6)
      refine gor hL ?_; (repeat (clear hL; intro t hL; refine gor hL ?_))
      refine gnm ?_; rw [hw]
      refine gor hL ?_; (repeat (clear hL; intro t hL; refine gor hL ?_))
      refine gnm ?_; (try simp only [pvz])
      refine gor hL ?_; (repeat (clear hL; intro t hL; refine gor hL ?_))
      refine gnm ?_; (try simp only [pvz])
      refine gor hL ?_; (repeat (clear hL; intro t hL; refine gor hL ?_))
      refine gnm ?_; (try simp only [pvz])
      refine gor hL ?_; (repeat (clear hL; intro t hL; refine gor hL ?_))
      refine gnm ?_; (try simp only [pvz])
      refine gor hL ?_; (repeat (clear hL; intro t hL; refine gor hL ?_))
      refine gnm ?_; (try simp only [pvz])
      refine gor hL ?_; (repeat (clear hL; intro t hL; refine gor hL ?_))
      refine gnm ?_; (try simp only [pvz])
      refine gor hL ?_; (repeat (clear hL; intro t hL; refine gor hL ?_))
      refine pcond_b rfl (fun hpos => ?_) (fun hpos => ?_)
      · have e0 : bP ≠ p6 := (hL.rem (x := .box bP _) (by repeat (first | exact Rem.head | apply Rem.tail))).ne
        have hsp : (T.procs.map Pc.row).flatten.map AV.d = y.row.map .d ++ (ys.map Pc.row).flatten.map .d := by rw [hl, List.map_cons, List.flatten_cons, List.map_append]
        rw [hsp] at hL
        simp only [Pc.row_av, List.cons_append, List.nil_append] at hL
        have hln : 0 < (T.procs.map Pc.row).length := by rw [hl]; simp
        refine gor hL ?_; (repeat (clear hL; intro t hL; refine gor hL ?_))
        refine po rfl (iaddr_bsl rfl rfl hln) ?_
        refine gor hL ?_; (repeat (clear hL; intro t hL; refine gor hL ?_))
        refine po rfl (iaddr_bsl rfl rfl hln) ?_
        refine gor hL ?_; (repeat (clear hL; intro t hL; refine gor hL ?_))
        obtain ⟨R2, hR2⟩ : ∃ R, R = ((({ y with timeout := IntKind.i64.wrap (y.timeout + 1) } : Pc) :: ys).map Pc.row) := ⟨_, rfl⟩
        have hr4 : ∀ r ∈ R2, r.length = 12 := fun r hr => by
          rw [hR2] at hr; obtain ⟨i, _, rfl⟩ := List.mem_map.1 hr; rfl
        have hlen : (T.procs.map Pc.row).length = R2.length := by rw [hR2, hl]; simp
        obtain ⟨t2, hz, hL⟩ := (hL.rem (x := .box bP _) (by repeat (first | exact Rem.head | apply Rem.tail))).frz (rows := R2) (rest := List.replicate ((capP - (T.procs.map Pc.row).length) * 12) .undef) hr4 (by rw [hR2]; simp [AV.weak1, Pc.row, Function.comp_def])
        have e1 : AV.frz1 bP R2 (.bsl bP 0 (T.procs.map Pc.row).length capP) = .d (.sl R2) := if_pos ⟨rfl, rfl, hlen⟩
        have e2 := fvT.frz1 bP R2
        simp only [List.map_cons, List.map_nil, Item.frz, e1, e2, pvf] at hL
        have hal := alike_procs T (l := ({ y with timeout := IntKind.i64.wrap (y.timeout + 1) } : Pc) :: ys) (by rw [hl]; exact head_ne (e := Pc.same) ys (pc_time y))
        refine ⟨_, t2, hz _, (TB.mk (T.name) (T.number) T.version (T.types) (T.faults) (({ y with timeout := IntKind.i64.wrap (y.timeout + 1) } : Pc) :: ys)), decide (((T.procs.map Pc.row).length : Int) > 0), vT, .d (.sl (T.faults.map Fl.row)), .d (.sl R2), ?_, hL.pk, fvT_w1, rfl, by rw [hR2]; rfl, fit_procs_of htf (by have := htf.procs; rw [hl] at this; simpa using this) (fun p hp => ?_) (fun p hp => ?_), by rw [hal.1, hpos]; rfl, by rw [hal.2, hpos]; rfl⟩
        · refine Eq.trans (congrArg (a₂ := put (put (put (fun _ => .undef) (some 7) (b2 (decide (((T.procs.map Pc.row).length : Int) > 0)))) (some 6) (ptrAt p6)) (some 5) (ptrAt p5)) (fun (f : Slots) => fun i => AV.frz bP R2 (f i)) tr2) ?_
          simp only [frz_put, frz_undef]
          rfl
        · rcases List.mem_cons.1 hp with rfl | hp
          · exact htf.pnames y (by rw [hl]; exact List.mem_cons_self)
          · exact htf.pnames p (by rw [hl]; exact List.mem_cons_of_mem _ hp)
        · rcases List.mem_cons.1 hp with rfl | hp
          · exact htf.pfit y (by rw [hl]; exact List.mem_cons_self)
          · exact htf.pfit p (by rw [hl]; exact List.mem_cons_of_mem _ hp)
      · simp [hl] at hpos
  · -- 6
    have hw : what.tmod 9 = 6 := by rw [IntWalk.rem_in _ _ (by omega)]; exact hcase
    by_cases hl : T.procs = []
    · skip
      refine gor hL ?_; (repeat (clear hL; intro t hL; refine gor hL ?_))
      refine pjoinO (fun s u => ∃ vT, VF vT (T.types.map Al.row) ∧ s = put (put (put (fun _ => .undef) (some 6) (ptrAt p6)) (some 5) (ptrAt p5)) (some 1) (.d (.int .u8 what)) ∧ Lay st [.box p6 [.d (.str (T.name)), .d (.int .i64 (T.number)), .d (.int .i64 T.version), vT, .d (.sl (T.faults.map Fl.row)), .d (.sl (T.procs.map Pc.row))], .box p5 [.d (.str (T.name)), .d (.int .i64 (T.number)), .d (.int .i64 T.version), .d (.sl (T.types.map Al.row)), .d (.sl (T.faults.map Fl.row)), .d (.sl (T.procs.map Pc.row))]] u) ?_ ?_
      · skip
        refine po_appBL hL rfl rfl rfl hr1 (by simp; omega) (fun h0 hL => ?_) (fun b cap t hne0 hcap hL => ?_)
        · skip
          refine gor hL ?_; (repeat (clear hL; intro t hL; refine gor hL ?_))
          exact ⟨_, _, .refl _ _, .full [], VF.nil h0, tr2, hL.pk⟩
        · skip
          refine gor hL ?_; (repeat (clear hL; intro t hL; refine gor hL ?_))
          have ec : (AV.bsl b 0 (T.types.map Al.row).length cap).cells = [.bsl b 0 (T.types.map Al.row).length cap] := rfl
          have e1 : AV.frz1 b (T.types.map Al.row) (.bsl b 0 (T.types.map Al.row).length cap) = .d (.sl (T.types.map Al.row)) := if_pos ⟨rfl, rfl, rfl⟩
          obtain ⟨t2, hz, hL⟩ := (hL.rem (x := .box b ((T.types.map Al.row).flatten.map .d ++ List.replicate ((cap - (T.types.map Al.row).length) * 5) .undef)) (by repeat (first | exact Rem.head | apply Rem.tail))).frz hr1 (cells_weak _ _)
          simp only [List.map_cons, List.map_nil, Item.frz, ec, List.cons_append, List.nil_append, e1, pvf] at hL
          refine ⟨_, t2, hz _, .d (.sl (T.types.map Al.row)), VF.sl _, ?_, hL.pk⟩
          refine Eq.trans (congrArg (a₂ := put (put (put (fun _ => .undef) (some 6) (ptrAt p6)) (some 5) (ptrAt p5)) (some 1) (.d (.int .u8 what))) (fun (f : Slots) => fun i => AV.frz b (T.types.map Al.row) (f i)) tr2) ?_
          simp only [frz_put, frz_undef]
          rfl
      rintro s t ⟨vT, fvT, rfl, hL⟩
      obtain ⟨fvT_r, fvT_w, fvT_w1, fvT_c, fvT_s, fvT_d⟩ := id fvT
      refine gor hL ?_; (repeat (clear hL; intro t hL; refine gor hL ?_))
      refine pjoinO (fun s u => ∃ vP, VF vP (T.procs.map Pc.row) ∧ s = put (put (put (fun _ => .undef) (some 6) (ptrAt p6)) (some 5) (ptrAt p5)) (some 1) (.d (.int .u8 what)) ∧ Lay st [.box p6 [.d (.str (T.name)), .d (.int .i64 (T.number)), .d (.int .i64 T.version), vT, .d (.sl (T.faults.map Fl.row)), vP], .box p5 [.d (.str (T.name)), .d (.int .i64 (T.number)), .d (.int .i64 T.version), .d (.sl (T.types.map Al.row)), .d (.sl (T.faults.map Fl.row)), .d (.sl (T.procs.map Pc.row))]] u) ?_ ?_
      · skip
        refine po_appBL hL rfl rfl rfl hr3 (by simp; omega) (fun h0 hL => ?_) (fun b cap t hne0 hcap hL => ?_)
        · skip
          refine gor hL ?_; (repeat (clear hL; intro t hL; refine gor hL ?_))
          exact ⟨_, _, .refl _ _, .full [], VF.nil h0, tr2, hL.pk⟩
        · skip
          refine gor hL ?_; (repeat (clear hL; intro t hL; refine gor hL ?_))
          have ec : (AV.bsl b 0 (T.procs.map Pc.row).length cap).cells = [.bsl b 0 (T.procs.map Pc.row).length cap] := rfl
          have e1 : AV.frz1 b (T.procs.map Pc.row) (.bsl b 0 (T.procs.map Pc.row).length cap) = .d (.sl (T.procs.map Pc.row)) := if_pos ⟨rfl, rfl, rfl⟩
          have f0_e := fvT.frz1 b (T.procs.map Pc.row)
          obtain ⟨t2, hz, hL⟩ := (hL.rem (x := .box b ((T.procs.map Pc.row).flatten.map .d ++ List.replicate ((cap - (T.procs.map Pc.row).length) * 12) .undef)) (by repeat (first | exact Rem.head | apply Rem.tail))).frz hr3 (cells_weak _ _)
          simp only [List.map_cons, List.map_nil, Item.frz, ec, List.cons_append, List.nil_append, e1, f0_e, pvf] at hL
          refine ⟨_, t2, hz _, .d (.sl (T.procs.map Pc.row)), VF.sl _, ?_, hL.pk⟩
          refine Eq.trans (congrArg (a₂ := put (put (put (fun _ => .undef) (some 6) (ptrAt p6)) (some 5) (ptrAt p5)) (some 1) (.d (.int .u8 what))) (fun (f : Slots) => fun i => AV.frz b (T.procs.map Pc.row) (f i)) tr2) ?_
          simp only [frz_put, frz_undef]
          rfl
      rintro s t ⟨vP, fvP, rfl, hL⟩
      obtain ⟨fvP_r, fvP_w, fvP_w1, fvP_c, fvP_s, fvP_d⟩ := id fvP
      refine gor hL ?_; (repeat (clear hL; intro t hL; refine gor hL ?_))
      refine pjoinF (fun s u => ∃ (T' : TB) (tn : Bool) (w1 w2 w3 : AV), s = put (put (put (fun _ => .undef) (some 7) (b2 tn)) (some 6) (ptrAt p6)) (some 5) (ptrAt p5) ∧ Lay st [.box p6 [.d (.str T'.name), .d (.int .i64 T'.number), .d (.int .i64 T'.version), w1, w2, w3], .box p5 [.d (.str (T.name)), .d (.int .i64 (T.number)), .d (.int .i64 T.version), .d (.sl (T.types.map Al.row)), .d (.sl (T.faults.map Fl.row)), .d (.sl (T.procs.map Pc.row))]] u ∧ w1.weak1 = .d (.sl (T'.types.map Al.row)) ∧ w2.weak1 = .d (.sl (T'.faults.map Fl.row)) ∧ w3.weak1 = .d (.sl (T'.procs.map Pc.row)) ∧ T'.fit ∧ T.alike T' = !tn ∧ T'.alike T = !tn) ?_ (fun s t ⟨T', tn, w1, w2, w3, e, hL, k1, k2, k3, k4, k5, k6⟩ => e ▸ alikeEnd hQ hL k1 k2 k3 htf k4 k5 k6)
      refine gor hL ?_; (repeat (clear hL; intro t hL; refine gor hL ?_))
      refine gnm ?_; rw [hw]
      refine gor hL ?_; (repeat (clear hL; intro t hL; refine gor hL ?_))
      refine gnm ?_; (try simp only [pvz])
      refine gor hL ?_; (repeat (clear hL; intro t hL; refine gor hL ?_))
      refine gnm ?_; (try simp only [pvz])
      refine gor hL ?_; (repeat (clear hL; intro t hL; refine gor hL ?_))
      refine gnm ?_; (try simp only [pvz])
      refine gor hL ?_; (repeat (clear hL; intro t hL; refine gor hL ?_))
      refine gnm ?_; (try simp only [pvz])
      refine gor hL ?_; (repeat (clear hL; intro t hL; refine gor hL ?_))
      refine gnm ?_; (try simp only [pvz])
      refine gor hL ?_; (repeat (clear hL; intro t hL; refine gor hL ?_))
      refine gnm ?_; (try simp only [pvz])
      refine gor hL ?_; (repeat (clear hL; intro t hL; refine gor hL ?_))
      refine gnm ?_; (try simp only [pvz])
      refine gor hL ?_; (repeat (clear hL; intro t hL; refine gor hL ?_))
      refine pcond_b rfl (fun hpos => ?_) (fun hpos => ?_)
      · simp [hl] at hpos
      refine gor hL ?_; (repeat (clear hL; intro t hL; refine gor hL ?_))
      exact ⟨_, _, .refl _ _, T, _, vT, .d (.sl (T.faults.map Fl.row)), vP, tr2, hL.pk, fvT_w1, rfl, fvP_w1, htf, by rw [alike_self, hpos]; rfl, by rw [alike_self, hpos]; rfl⟩
    · skip
      obtain ⟨y, ys, hl⟩ := List.exists_cons_of_ne_nil hl
      have hne : (T.procs.map Pc.row) ≠ [] := by rw [hl]; simp
      refine gor hL ?_; (repeat (clear hL; intro t hL; refine gor hL ?_))
      refine pjoinO (fun s u => ∃ vT, VF vT (T.types.map Al.row) ∧ s = put (put (put (fun _ => .undef) (some 6) (ptrAt p6)) (some 5) (ptrAt p5)) (some 1) (.d (.int .u8 what)) ∧ Lay st [.box p6 [.d (.str (T.name)), .d (.int .i64 (T.number)), .d (.int .i64 T.version), vT, .d (.sl (T.faults.map Fl.row)), .d (.sl (T.procs.map Pc.row))], .box p5 [.d (.str (T.name)), .d (.int .i64 (T.number)), .d (.int .i64 T.version), .d (.sl (T.types.map Al.row)), .d (.sl (T.faults.map Fl.row)), .d (.sl (T.procs.map Pc.row))]] u) ?_ ?_
      · skip
        refine po_appBL hL rfl rfl rfl hr1 (by simp; omega) (fun h0 hL => ?_) (fun b cap t hne0 hcap hL => ?_)
        · skip
          refine gor hL ?_; (repeat (clear hL; intro t hL; refine gor hL ?_))
          exact ⟨_, _, .refl _ _, .full [], VF.nil h0, tr2, hL.pk⟩
        · skip
          refine gor hL ?_; (repeat (clear hL; intro t hL; refine gor hL ?_))
          have ec : (AV.bsl b 0 (T.types.map Al.row).length cap).cells = [.bsl b 0 (T.types.map Al.row).length cap] := rfl
          have e1 : AV.frz1 b (T.types.map Al.row) (.bsl b 0 (T.types.map Al.row).length cap) = .d (.sl (T.types.map Al.row)) := if_pos ⟨rfl, rfl, rfl⟩
          obtain ⟨t2, hz, hL⟩ := (hL.rem (x := .box b ((T.types.map Al.row).flatten.map .d ++ List.replicate ((cap - (T.types.map Al.row).length) * 5) .undef)) (by repeat (first | exact Rem.head | apply Rem.tail))).frz hr1 (cells_weak _ _)
          simp only [List.map_cons, List.map_nil, Item.frz, ec, List.cons_append, List.nil_append, e1, pvf] at hL
          refine ⟨_, t2, hz _, .d (.sl (T.types.map Al.row)), VF.sl _, ?_, hL.pk⟩
          refine Eq.trans (congrArg (a₂ := put (put (put (fun _ => .undef) (some 6) (ptrAt p6)) (some 5) (ptrAt p5)) (some 1) (.d (.int .u8 what))) (fun (f : Slots) => fun i => AV.frz b (T.types.map Al.row) (f i)) tr2) ?_
          simp only [frz_put, frz_undef]
          rfl
      rintro s t ⟨vT, fvT, rfl, hL⟩
      obtain ⟨fvT_r, fvT_w, fvT_w1, fvT_c, fvT_s, fvT_d⟩ := id fvT
      refine gor hL ?_; (repeat (clear hL; intro t hL; refine gor hL ?_))
      refine pjoinO (fun s u => ∃ b cap, (T.procs.map Pc.row).length ≤ cap ∧ s = put (put (put (fun _ => .undef) (some 6) (ptrAt p6)) (some 5) (ptrAt p5)) (some 1) (.d (.int .u8 what)) ∧ Lay st [.box b ((T.procs.map Pc.row).flatten.map .d ++ List.replicate ((cap - (T.procs.map Pc.row).length) * 12) .undef), .box p6 [.d (.str (T.name)), .d (.int .i64 (T.number)), .d (.int .i64 T.version), vT, .d (.sl (T.faults.map Fl.row)), .bsl b 0 (T.procs.map Pc.row).length cap], .box p5 [.d (.str (T.name)), .d (.int .i64 (T.number)), .d (.int .i64 T.version), .d (.sl (T.types.map Al.row)), .d (.sl (T.faults.map Fl.row)), .d (.sl (T.procs.map Pc.row))]] u) ?_ ?_
      · skip
        refine po_appBL hL rfl rfl rfl hr3 (by simp; omega) (fun h0 hL => ?_) (fun b cap t hne0 hcap hL => ?_)
        · skip
          exact absurd h0 hne
        · skip
          refine gor hL ?_; (repeat (clear hL; intro t hL; refine gor hL ?_))
          have ec : (AV.bsl b 0 (T.procs.map Pc.row).length cap).cells = [.bsl b 0 (T.procs.map Pc.row).length cap] := rfl
          simp only [ec, List.cons_append, List.nil_append] at hL
          exact ⟨_, _, .refl _ _, b, cap, hcap, tr2, hL.pk⟩
      rintro s t ⟨bP, capP, hcapP, rfl, hL⟩
      refine gor hL ?_; (repeat (clear hL; intro t hL; refine gor hL ?_))
      refine pjoinF (fun s u => ∃ (T' : TB) (tn : Bool) (w1 w2 w3 : AV), s = put (put (put (fun _ => .undef) (some 7) (b2 tn)) (some 6) (ptrAt p6)) (some 5) (ptrAt p5) ∧ Lay st [.box p6 [.d (.str T'.name), .d (.int .i64 T'.number), .d (.int .i64 T'.version), w1, w2, w3], .box p5 [.d (.str (T.name)), .d (.int .i64 (T.number)), .d (.int .i64 T.version), .d (.sl (T.types.map Al.row)), .d (.sl (T.faults.map Fl.row)), .d (.sl (T.procs.map Pc.row))]] u ∧ w1.weak1 = .d (.sl (T'.types.map Al.row)) ∧ w2.weak1 = .d (.sl (T'.faults.map Fl.row)) ∧ w3.weak1 = .d (.sl (T'.procs.map Pc.row)) ∧ T'.fit ∧ T.alike T' = !tn ∧ T'.alike T = !tn) ?_ (fun s t ⟨T', tn, w1, w2, w3, e, hL, k1, k2, k3, k4, k5, k6⟩ => e ▸ alikeEnd hQ hL k1 k2 k3 htf k4 k5 k6)
      refine gor hL ?_; (repeat (clear hL; intro t hL; refine gor hL ?_))
      refine gnm ?_; rw [hw]
      refine gor hL ?_; (repeat (clear hL; intro t hL; refine gor hL ?_))
      refine gnm ?_; (try simp only [pvz])
      refine gor hL ?_; (repeat (clear hL; intro t hL; refine gor hL ?_))
      refine gnm ?_; (try simp only [pvz])
      refine gor hL ?_; (repeat (clear hL; intro t hL; refine gor hL ?_))
      refine gnm ?_; (try simp only [pvz])
      refine gor hL ?_; (repeat (clear hL; intro t hL; refine gor hL ?_))
      refine gnm ?_; (try simp only [pvz])
      refine gor hL ?_; (repeat (clear hL; intro t hL; refine gor hL ?_))
      refine gnm ?_; (try simp only [pvz])
      refine gor hL ?_; (repeat (clear hL; intro t hL; refine gor hL ?_))
      refine gnm ?_; (try simp only [pvz])
      refine gor hL ?_; (repeat (clear hL; intro t hL; refine gor hL ?_))
      refine gnm ?_; (try simp only [pvz])
      refine gor hL ?_; (repeat (clear hL; intro t hL; refine gor hL ?_))
      refine pcond_b rfl (fun hpos => ?_) (fun hpos => ?_)
      · have e0 : bP ≠ p6 := (hL.rem (x := .box bP _) (by repeat (first | exact Rem.head | apply Rem.tail))).ne
        have hsp : (T.procs.map Pc.row).flatten.map AV.d = y.row.map .d ++ (ys.map Pc.row).flatten.map .d := by rw [hl, List.map_cons, List.flatten_cons, List.map_append]
        rw [hsp] at hL
        simp only [Pc.row_av, List.cons_append, List.nil_append] at hL
        have hln : 0 < (T.procs.map Pc.row).length := by rw [hl]; simp
        refine gor hL ?_; (repeat (clear hL; intro t hL; refine gor hL ?_))
        refine po rfl (iaddr_bsl rfl rfl hln) ?_
        refine gor hL ?_; (repeat (clear hL; intro t hL; refine gor hL ?_))
        refine po rfl (iaddr_bsl rfl rfl hln) ?_
        refine gor hL ?_; (repeat (clear hL; intro t hL; refine gor hL ?_))
        obtain ⟨R2, hR2⟩ : ∃ R, R = ((({ y with collate := IntKind.u8.wrap (y.collate + 1) } : Pc) :: ys).map Pc.row) := ⟨_, rfl⟩
        have hr4 : ∀ r ∈ R2, r.length = 12 := fun r hr => by
          rw [hR2] at hr; obtain ⟨i, _, rfl⟩ := List.mem_map.1 hr; rfl
        have hlen : (T.procs.map Pc.row).length = R2.length := by rw [hR2, hl]; simp
        obtain ⟨t2, hz, hL⟩ := (hL.rem (x := .box bP _) (by repeat (first | exact Rem.head | apply Rem.tail))).frz (rows := R2) (rest := List.replicate ((capP - (T.procs.map Pc.row).length) * 12) .undef) hr4 (by rw [hR2]; simp [AV.weak1, Pc.row, Function.comp_def])
        have e1 : AV.frz1 bP R2 (.bsl bP 0 (T.procs.map Pc.row).length capP) = .d (.sl R2) := if_pos ⟨rfl, rfl, hlen⟩
        have e2 := fvT.frz1 bP R2
        simp only [List.map_cons, List.map_nil, Item.frz, e1, e2, pvf] at hL
        have hal := alike_procs T (l := ({ y with collate := IntKind.u8.wrap (y.collate + 1) } : Pc) :: ys) (by rw [hl]; exact head_ne (e := Pc.same) ys (pc_coll y))
        refine ⟨_, t2, hz _, (TB.mk (T.name) (T.number) T.version (T.types) (T.faults) (({ y with collate := IntKind.u8.wrap (y.collate + 1) } : Pc) :: ys)), decide (((T.procs.map Pc.row).length : Int) > 0), vT, .d (.sl (T.faults.map Fl.row)), .d (.sl R2), ?_, hL.pk, fvT_w1, rfl, by rw [hR2]; rfl, fit_procs_of htf (by have := htf.procs; rw [hl] at this; simpa using this) (fun p hp => ?_) (fun p hp => ?_), by rw [hal.1, hpos]; rfl, by rw [hal.2, hpos]; rfl⟩
        · refine Eq.trans (congrArg (a₂ := put (put (put (fun _ => .undef) (some 7) (b2 (decide (((T.procs.map Pc.row).length : Int) > 0)))) (some 6) (ptrAt p6)) (some 5) (ptrAt p5)) (fun (f : Slots) => fun i => AV.frz bP R2 (f i)) tr2) ?_
          simp only [frz_put, frz_undef]
          rfl
        · rcases List.mem_cons.1 hp with rfl | hp
          · exact htf.pnames y (by rw [hl]; exact List.mem_cons_self)
          · exact htf.pnames p (by rw [hl]; exact List.mem_cons_of_mem _ hp)
        · rcases List.mem_cons.1 hp with rfl | hp
          · exact htf.pfit y (by rw [hl]; exact List.mem_cons_self)
          · exact htf.pfit p (by rw [hl]; exact List.mem_cons_of_mem _ hp)
      · simp [hl] at hpos
  · -- 7
    have hw : what.tmod 9 = 7 := by rw [IntWalk.rem_in _ _ (by omega)]; exact hcase
    by_cases hl : T.types = []
    · skip
      refine gor hL ?_; (repeat (clear hL; intro t hL; refine gor hL ?_))
      refine pjoinO (fun s u => ∃ vT, VF vT (T.types.map Al.row) ∧ s = put (put (put (fun _ => .undef) (some 6) (ptrAt p6)) (some 5) (ptrAt p5)) (some 1) (.d (.int .u8 what)) ∧ Lay st [.box p6 [.d (.str (T.name)), .d (.int .i64 (T.number)), .d (.int .i64 T.version), vT, .d (.sl (T.faults.map Fl.row)), .d (.sl (T.procs.map Pc.row))], .box p5 [.d (.str (T.name)), .d (.int .i64 (T.number)), .d (.int .i64 T.version), .d (.sl (T.types.map Al.row)), .d (.sl (T.faults.map Fl.row)), .d (.sl (T.procs.map Pc.row))]] u) ?_ ?_
      · skip
        refine po_appBL hL rfl rfl rfl hr1 (by simp; omega) (fun h0 hL => ?_) (fun b cap t hne0 hcap hL => ?_)
        · skip
          refine gor hL ?_; (repeat (clear hL; intro t hL; refine gor hL ?_))
          exact ⟨_, _, .refl _ _, .full [], VF.nil h0, tr2, hL.pk⟩
        · skip
          refine gor hL ?_; (repeat (clear hL; intro t hL; refine gor hL ?_))
          have ec : (AV.bsl b 0 (T.types.map Al.row).length cap).cells = [.bsl b 0 (T.types.map Al.row).length cap] := rfl
          have e1 : AV.frz1 b (T.types.map Al.row) (.bsl b 0 (T.types.map Al.row).length cap) = .d (.sl (T.types.map Al.row)) := if_pos ⟨rfl, rfl, rfl⟩
          obtain ⟨t2, hz, hL⟩ := (hL.rem (x := .box b ((T.types.map Al.row).flatten.map .d ++ List.replicate ((cap - (T.types.map Al.row).length) * 5) .undef)) (by repeat (first | exact Rem.head | apply Rem.tail))).frz hr1 (cells_weak _ _)
          simp only [List.map_cons, List.map_nil, Item.frz, ec, List.cons_append, List.nil_append, e1, pvf] at hL
          refine ⟨_, t2, hz _, .d (.sl (T.types.map Al.row)), VF.sl _, ?_, hL.pk⟩
          refine Eq.trans (congrArg (a₂ := put (put (put (fun _ => .undef) (some 6) (ptrAt p6)) (some 5) (ptrAt p5)) (some 1) (.d (.int .u8 what))) (fun (f : Slots) => fun i => AV.frz b (T.types.map Al.row) (f i)) tr2) ?_
          simp only [frz_put, frz_undef]
          rfl
      rintro s t ⟨vT, fvT, rfl, hL⟩
      obtain ⟨fvT_r, fvT_w, fvT_w1, fvT_c, fvT_s, fvT_d⟩ := id fvT
      refine gor hL ?_; (repeat (clear hL; intro t hL; refine gor hL ?_))
      refine pjoinO (fun s u => ∃ vP, VF vP (T.procs.map Pc.row) ∧ s = put (put (put (fun _ => .undef) (some 6) (ptrAt p6)) (some 5) (ptrAt p5)) (some 1) (.d (.int .u8 what)) ∧ Lay st [.box p6 [.d (.str (T.name)), .d (.int .i64 (T.number)), .d (.int .i64 T.version), vT, .d (.sl (T.faults.map Fl.row)), vP], .box p5 [.d (.str (T.name)), .d (.int .i64 (T.number)), .d (.int .i64 T.version), .d (.sl (T.types.map Al.row)), .d (.sl (T.faults.map Fl.row)), .d (.sl (T.procs.map Pc.row))]] u) ?_ ?_
      · skip
        refine po_appBL hL rfl rfl rfl hr3 (by simp; omega) (fun h0 hL => ?_) (fun b cap t hne0 hcap hL => ?_)
        · skip
          refine gor hL ?_; (repeat (clear hL; intro t hL; refine gor hL ?_))
          exact ⟨_, _, .refl _ _, .full [], VF.nil h0, tr2, hL.pk⟩
        · skip
          refine gor hL ?_; (repeat (clear hL; intro t hL; refine gor hL ?_))
          have ec : (AV.bsl b 0 (T.procs.map Pc.row).length cap).cells = [.bsl b 0 (T.procs.map Pc.row).length cap] := rfl
          have e1 : AV.frz1 b (T.procs.map Pc.row) (.bsl b 0 (T.procs.map Pc.row).length cap) = .d (.sl (T.procs.map Pc.row)) := if_pos ⟨rfl, rfl, rfl⟩
          have f0_e := fvT.frz1 b (T.procs.map Pc.row)
          obtain ⟨t2, hz, hL⟩ := (hL.rem (x := .box b ((T.procs.map Pc.row).flatten.map .d ++ List.replicate ((cap - (T.procs.map Pc.row).length) * 12) .undef)) (by repeat (first | exact Rem.head | apply Rem.tail))).frz hr3 (cells_weak _ _)
          simp only [List.map_cons, List.map_nil, Item.frz, ec, List.cons_append, List.nil_append, e1, f0_e, pvf] at hL
          refine ⟨_, t2, hz _, .d (.sl (T.procs.map Pc.row)), VF.sl _, ?_, hL.pk⟩
          refine Eq.trans (congrArg (a₂ := put (put (put (fun _ => .undef) (some 6) (ptrAt p6)) (some 5) (ptrAt p5)) (some 1) (.d (.int .u8 what))) (fun (f : Slots) => fun i => AV.frz b (T.procs.map Pc.row) (f i)) tr2) ?_
          simp only [frz_put, frz_undef]
          rfl
      rintro s t ⟨vP, fvP, rfl, hL⟩
      obtain ⟨fvP_r, fvP_w, fvP_w1, fvP_c, fvP_s, fvP_d⟩ := id fvP
      refine gor hL ?_; (repeat (clear hL; intro t hL; refine gor hL ?_))
      refine pjoinF (fun s u => ∃ (T' : TB) (tn : Bool) (w1 w2 w3 : AV), s = put (put (put (fun _ => .undef) (some 7) (b2 tn)) (some 6) (ptrAt p6)) (some 5) (ptrAt p5) ∧ Lay st [.box p6 [.d (.str T'.name), .d (.int .i64 T'.number), .d (.int .i64 T'.version), w1, w2, w3], .box p5 [.d (.str (T.name)), .d (.int .i64 (T.number)), .d (.int .i64 T.version), .d (.sl (T.types.map Al.row)), .d (.sl (T.faults.map Fl.row)), .d (.sl (T.procs.map Pc.row))]] u ∧ w1.weak1 = .d (.sl (T'.types.map Al.row)) ∧ w2.weak1 = .d (.sl (T'.faults.map Fl.row)) ∧ w3.weak1 = .d (.sl (T'.procs.map Pc.row)) ∧ T'.fit ∧ T.alike T' = !tn ∧ T'.alike T = !tn) ?_ (fun s t ⟨T', tn, w1, w2, w3, e, hL, k1, k2, k3, k4, k5, k6⟩ => e ▸ alikeEnd hQ hL k1 k2 k3 htf k4 k5 k6)
      refine gor hL ?_; (repeat (clear hL; intro t hL; refine gor hL ?_))
      refine gnm ?_; rw [hw]
      refine gor hL ?_; (repeat (clear hL; intro t hL; refine gor hL ?_))
      refine gnm ?_; (try simp only [pvz])
      refine gor hL ?_; (repeat (clear hL; intro t hL; refine gor hL ?_))
      refine gnm ?_; (try simp only [pvz])
      refine gor hL ?_; (repeat (clear hL; intro t hL; refine gor hL ?_))
      refine gnm ?_; (try simp only [pvz])
      refine gor hL ?_; (repeat (clear hL; intro t hL; refine gor hL ?_))
      refine gnm ?_; (try simp only [pvz])
      refine gor hL ?_; (repeat (clear hL; intro t hL; refine gor hL ?_))
      refine gnm ?_; (try simp only [pvz])
      refine gor hL ?_; (repeat (clear hL; intro t hL; refine gor hL ?_))
      refine gnm ?_; (try simp only [pvz])
      refine gor hL ?_; (repeat (clear hL; intro t hL; refine gor hL ?_))
      refine gnm ?_; (try simp only [pvz])
      refine gor hL ?_; (repeat (clear hL; intro t hL; refine gor hL ?_))
      refine gnm ?_; (try simp only [pvz])
      refine gor hL ?_; (repeat (clear hL; intro t hL; refine gor hL ?_))
      refine pcond_b rfl (fun hpos => ?_) (fun hpos => ?_)
      · simp [hl] at hpos
      refine gor hL ?_; (repeat (clear hL; intro t hL; refine gor hL ?_))
      exact ⟨_, _, .refl _ _, T, _, vT, .d (.sl (T.faults.map Fl.row)), vP, tr2, hL.pk, fvT_w1, rfl, fvP_w1, htf, by rw [alike_self, hpos]; rfl, by rw [alike_self, hpos]; rfl⟩
    · skip
      obtain ⟨y, ys, hl⟩ := List.exists_cons_of_ne_nil hl
      have hne : (T.types.map Al.row) ≠ [] := by rw [hl]; simp
      refine gor hL ?_; (repeat (clear hL; intro t hL; refine gor hL ?_))
      refine pjoinO (fun s u => ∃ b cap, (T.types.map Al.row).length ≤ cap ∧ s = put (put (put (fun _ => .undef) (some 6) (ptrAt p6)) (some 5) (ptrAt p5)) (some 1) (.d (.int .u8 what)) ∧ Lay st [.box b ((T.types.map Al.row).flatten.map .d ++ List.replicate ((cap - (T.types.map Al.row).length) * 5) .undef), .box p6 [.d (.str (T.name)), .d (.int .i64 (T.number)), .d (.int .i64 T.version), .bsl b 0 (T.types.map Al.row).length cap, .d (.sl (T.faults.map Fl.row)), .d (.sl (T.procs.map Pc.row))], .box p5 [.d (.str (T.name)), .d (.int .i64 (T.number)), .d (.int .i64 T.version), .d (.sl (T.types.map Al.row)), .d (.sl (T.faults.map Fl.row)), .d (.sl (T.procs.map Pc.row))]] u) ?_ ?_
      · skip
        refine po_appBL hL rfl rfl rfl hr1 (by simp; omega) (fun h0 hL => ?_) (fun b cap t hne0 hcap hL => ?_)
        · skip
          exact absurd h0 hne
        · skip
          refine gor hL ?_; (repeat (clear hL; intro t hL; refine gor hL ?_))
          have ec : (AV.bsl b 0 (T.types.map Al.row).length cap).cells = [.bsl b 0 (T.types.map Al.row).length cap] := rfl
          simp only [ec, List.cons_append, List.nil_append] at hL
          exact ⟨_, _, .refl _ _, b, cap, hcap, tr2, hL.pk⟩
      rintro s t ⟨bT, capT, hcapT, rfl, hL⟩
      refine gor hL ?_; (repeat (clear hL; intro t hL; refine gor hL ?_))
      refine pjoinO (fun s u => ∃ vP, VF vP (T.procs.map Pc.row) ∧ s = put (put (put (fun _ => .undef) (some 6) (ptrAt p6)) (some 5) (ptrAt p5)) (some 1) (.d (.int .u8 what)) ∧ Lay st [.box p6 [.d (.str (T.name)), .d (.int .i64 (T.number)), .d (.int .i64 T.version), .bsl bT 0 (T.types.map Al.row).length capT, .d (.sl (T.faults.map Fl.row)), vP], .box p5 [.d (.str (T.name)), .d (.int .i64 (T.number)), .d (.int .i64 T.version), .d (.sl (T.types.map Al.row)), .d (.sl (T.faults.map Fl.row)), .d (.sl (T.procs.map Pc.row))], .box bT ((T.types.map Al.row).flatten.map .d ++ List.replicate ((capT - (T.types.map Al.row).length) * 5) .undef)] u) ?_ ?_
      · skip
        refine po_appBL hL rfl rfl rfl hr3 (by simp; omega) (fun h0 hL => ?_) (fun b cap t hne0 hcap hL => ?_)
        · skip
          refine gor hL ?_; (repeat (clear hL; intro t hL; refine gor hL ?_))
          exact ⟨_, _, .refl _ _, .full [], VF.nil h0, tr2, hL.pk⟩
        · skip
          refine gor hL ?_; (repeat (clear hL; intro t hL; refine gor hL ?_))
          have ec : (AV.bsl b 0 (T.procs.map Pc.row).length cap).cells = [.bsl b 0 (T.procs.map Pc.row).length cap] := rfl
          have e1 : AV.frz1 b (T.procs.map Pc.row) (.bsl b 0 (T.procs.map Pc.row).length cap) = .d (.sl (T.procs.map Pc.row)) := if_pos ⟨rfl, rfl, rfl⟩
          have hne2 : bT ≠ b := ((hL.rem (x := .box b ((T.procs.map Pc.row).flatten.map .d ++ List.replicate ((cap - (T.procs.map Pc.row).length) * 12) .undef)) (by repeat (first | exact Rem.head | apply Rem.tail))).rem (x := .box bT ((T.types.map Al.row).flatten.map .d ++ List.replicate ((capT - (T.types.map Al.row).length) * 5) .undef)) (by repeat (first | exact Rem.head | apply Rem.tail))).ne
          have f0_e : AV.frz1 b (T.procs.map Pc.row) (.bsl bT 0 (T.types.map Al.row).length capT) = .bsl bT 0 (T.types.map Al.row).length capT := if_neg fun e => hne2 e.1
          have f0_c := cells_frz (T.types.map Al.row).flatten ((capT - (T.types.map Al.row).length) * 5) b (T.procs.map Pc.row)
          obtain ⟨t2, hz, hL⟩ := (hL.rem (x := .box b ((T.procs.map Pc.row).flatten.map .d ++ List.replicate ((cap - (T.procs.map Pc.row).length) * 12) .undef)) (by repeat (first | exact Rem.head | apply Rem.tail))).frz hr3 (cells_weak _ _)
          simp only [List.map_cons, List.map_nil, Item.frz, ec, List.cons_append, List.nil_append, e1, f0_e, f0_c, pvf] at hL
          refine ⟨_, t2, hz _, .d (.sl (T.procs.map Pc.row)), VF.sl _, ?_, hL.pk⟩
          refine Eq.trans (congrArg (a₂ := put (put (put (fun _ => .undef) (some 6) (ptrAt p6)) (some 5) (ptrAt p5)) (some 1) (.d (.int .u8 what))) (fun (f : Slots) => fun i => AV.frz b (T.procs.map Pc.row) (f i)) tr2) ?_
          simp only [frz_put, frz_undef]
          rfl
      rintro s t ⟨vP, fvP, rfl, hL⟩
      obtain ⟨fvP_r, fvP_w, fvP_w1, fvP_c, fvP_s, fvP_d⟩ := id fvP
      refine gor hL ?_; (repeat (clear hL; intro t hL; refine gor hL ?_))
      refine pjoinF (fun s u => ∃ (T' : TB) (tn : Bool) (w1 w2 w3 : AV), s = put (put (put (fun _ => .undef) (some 7) (b2 tn)) (some 6) (ptrAt p6)) (some 5) (ptrAt p5) ∧ Lay st [.box p6 [.d (.str T'.name), .d (.int .i64 T'.number), .d (.int .i64 T'.version), w1, w2, w3], .box p5 [.d (.str (T.name)), .d (.int .i64 (T.number)), .d (.int .i64 T.version), .d (.sl (T.types.map Al.row)), .d (.sl (T.faults.map Fl.row)), .d (.sl (T.procs.map Pc.row))]] u ∧ w1.weak1 = .d (.sl (T'.types.map Al.row)) ∧ w2.weak1 = .d (.sl (T'.faults.map Fl.row)) ∧ w3.weak1 = .d (.sl (T'.procs.map Pc.row)) ∧ T'.fit ∧ T.alike T' = !tn ∧ T'.alike T = !tn) ?_ (fun s t ⟨T', tn, w1, w2, w3, e, hL, k1, k2, k3, k4, k5, k6⟩ => e ▸ alikeEnd hQ hL k1 k2 k3 htf k4 k5 k6)
      refine gor hL ?_; (repeat (clear hL; intro t hL; refine gor hL ?_))
      refine gnm ?_; rw [hw]
      refine gor hL ?_; (repeat (clear hL; intro t hL; refine gor hL ?_))
      refine gnm ?_; (try simp only [pvz])
      refine gor hL ?_; (repeat (clear hL; intro t hL; refine gor hL ?_))
      refine gnm ?_; (try simp only [pvz])
      refine gor hL ?_; (repeat (clear hL; intro t hL; refine gor hL ?_))
      refine gnm ?_; (try simp only [pvz])
      refine gor hL ?_; (repeat (clear hL; intro t hL; refine gor hL ?_))
      refine gnm ?_; (try simp only [pvz])
      refine gor hL ?_; (repeat (clear hL; intro t hL; refine gor hL ?_))
      refine gnm ?_; (try simp only [pvz])
      refine gor hL ?_; (repeat (clear hL; intro t hL; refine gor hL ?_))
      refine gnm ?_; (try simp only [pvz])
      refine gor hL ?_; (repeat (clear hL; intro t hL; refine gor hL ?_))
      refine gnm ?_; (try simp only [pvz])
      refine gor hL ?_; (repeat (clear hL; intro t hL; refine gor hL ?_))
      refine gnm ?_; (try simp only [pvz])
      refine gor hL ?_; (repeat (clear hL; intro t hL; refine gor hL ?_))
      refine pcond_b rfl (fun hpos => ?_) (fun hpos => ?_)
      · have hsp : (T.types.map Al.row).flatten.map AV.d = y.row.map .d ++ (ys.map Al.row).flatten.map .d := by rw [hl, List.map_cons, List.flatten_cons, List.map_append]
        rw [hsp] at hL
        simp only [Al.row_av, List.cons_append, List.nil_append] at hL
        have hln : 0 < (T.types.map Al.row).length := by rw [hl]; simp
        refine gor hL ?_; (repeat (clear hL; intro t hL; refine gor hL ?_))
        refine po rfl (iaddr_bsl rfl rfl hln) ?_
        refine gor hL ?_; (repeat (clear hL; intro t hL; refine gor hL ?_))
        refine po rfl (iaddr_bsl rfl rfl hln) ?_
        refine gor hL ?_; (repeat (clear hL; intro t hL; refine gor hL ?_))
        obtain ⟨R2, hR2⟩ : ∃ R, R = ((y.more :: ys).map Al.row) := ⟨_, rfl⟩
        have hr4 : ∀ r ∈ R2, r.length = 5 := fun r hr => by
          rw [hR2] at hr; obtain ⟨i, _, rfl⟩ := List.mem_map.1 hr; exact Al.row_len _
        have hlen : (T.types.map Al.row).length = R2.length := by rw [hR2, hl]; simp
        obtain ⟨t2, hz, hL⟩ := (hL.rem (x := .box bT _) (by repeat (first | exact Rem.head | apply Rem.tail))).frz (rows := R2) (rest := List.replicate ((capT - (T.types.map Al.row).length) * 5) .undef) hr4 (by rw [hR2, List.map_cons (f := Al.row), List.flatten_cons, Al.row_eq y.more]; simp [AV.weak1, Al.more, KT.kind, KT.most, KT.names, KT.of, Function.comp_def])
        have e1 : AV.frz1 bT R2 (.bsl bT 0 (T.types.map Al.row).length capT) = .d (.sl R2) := if_pos ⟨rfl, rfl, hlen⟩
        have e2 := fvP.frz1 bT R2
        simp only [List.map_cons, List.map_nil, Item.frz, e1, e2, pvf] at hL
        have hal := alike_types T (l := y.more :: ys) (by rw [hl]; exact head_ne (e := Al.same) ys (al_most y))
        refine ⟨_, t2, hz _, (TB.mk (T.name) (T.number) T.version (y.more :: ys) (T.faults) (T.procs)), decide (((T.types.map Al.row).length : Int) > 0), .d (.sl R2), .d (.sl (T.faults.map Fl.row)), vP, ?_, hL.pk, by rw [hR2]; rfl, rfl, fvP_w1, fit_types htf (by have := htf.types.1; rw [hl] at this; simpa using this) (fun p hp => ?_) (fun p hp => ?_), by rw [hal.1, hpos]; rfl, by rw [hal.2, hpos]; rfl⟩
        · refine Eq.trans (congrArg (a₂ := put (put (put (fun _ => .undef) (some 7) (b2 (decide (((T.types.map Al.row).length : Int) > 0)))) (some 6) (ptrAt p6)) (some 5) (ptrAt p5)) (fun (f : Slots) => fun i => AV.frz bT R2 (f i)) tr2) ?_
          simp only [frz_put, frz_undef]
          rfl
        · rcases List.mem_cons.1 hp with rfl | hp
          · have := htf.types.2 y (by rw [hl]; exact List.mem_cons_self)
            rw [KT.fit_eq] at this ⊢
            exact this
          · exact htf.types.2 p (by rw [hl]; exact List.mem_cons_of_mem _ hp)
        · rcases List.mem_cons.1 hp with rfl | hp
          · exact htf.tnames y (by rw [hl]; exact List.mem_cons_self)
          · exact htf.tnames p (by rw [hl]; exact List.mem_cons_of_mem _ hp)
      · simp [hl] at hpos
  · -- 8
    have hw : what.tmod 9 = 8 := by rw [IntWalk.rem_in _ _ (by omega)]; exact hcase
    refine gor hL ?_; (repeat (clear hL; intro t hL; refine gor hL ?_))
    refine pjoinO (fun s u => ∃ vT, VF vT (T.types.map Al.row) ∧ s = put (put (put (fun _ => .undef) (some 6) (ptrAt p6)) (some 5) (ptrAt p5)) (some 1) (.d (.int .u8 what)) ∧ Lay st [.box p6 [.d (.str (T.name)), .d (.int .i64 (T.number)), .d (.int .i64 T.version), vT, .d (.sl (T.faults.map Fl.row)), .d (.sl (T.procs.map Pc.row))], .box p5 [.d (.str (T.name)), .d (.int .i64 (T.number)), .d (.int .i64 T.version), .d (.sl (T.types.map Al.row)), .d (.sl (T.faults.map Fl.row)), .d (.sl (T.procs.map Pc.row))]] u) ?_ ?_
    · skip
      refine po_appBL hL rfl rfl rfl hr1 (by simp; omega) (fun h0 hL => ?_) (fun b cap t hne0 hcap hL => ?_)
      · skip
        refine gor hL ?_; (repeat (clear hL; intro t hL; refine gor hL ?_))
        exact ⟨_, _, .refl _ _, .full [], VF.nil h0, tr2, hL.pk⟩
      · skip
        refine gor hL ?_; (repeat (clear hL; intro t hL; refine gor hL ?_))
        have ec : (AV.bsl b 0 (T.types.map Al.row).length cap).cells = [.bsl b 0 (T.types.map Al.row).length cap] := rfl
        have e1 : AV.frz1 b (T.types.map Al.row) (.bsl b 0 (T.types.map Al.row).length cap) = .d (.sl (T.types.map Al.row)) := if_pos ⟨rfl, rfl, rfl⟩
        obtain ⟨t2, hz, hL⟩ := (hL.rem (x := .box b ((T.types.map Al.row).flatten.map .d ++ List.replicate ((cap - (T.types.map Al.row).length) * 5) .undef)) (by repeat (first | exact Rem.head | apply Rem.tail))).frz hr1 (cells_weak _ _)
        simp only [List.map_cons, List.map_nil, Item.frz, ec, List.cons_append, List.nil_append, e1, pvf] at hL
        refine ⟨_, t2, hz _, .d (.sl (T.types.map Al.row)), VF.sl _, ?_, hL.pk⟩
        refine Eq.trans (congrArg (a₂ := put (put (put (fun _ => .undef) (some 6) (ptrAt p6)) (some 5) (ptrAt p5)) (some 1) (.d (.int .u8 what))) (fun (f : Slots) => fun i => AV.frz b (T.types.map Al.row) (f i)) tr2) ?_
        simp only [frz_put, frz_undef]
        rfl
    rintro s t ⟨vT, fvT, rfl, hL⟩
    obtain ⟨fvT_r, fvT_w, fvT_w1, fvT_c, fvT_s, fvT_d⟩ := id fvT
    refine gor hL ?_; (repeat (clear hL; intro t hL; refine gor hL ?_))
    refine pjoinO (fun s u => ∃ vP, VF vP (T.procs.map Pc.row) ∧ s = put (put (put (fun _ => .undef) (some 6) (ptrAt p6)) (some 5) (ptrAt p5)) (some 1) (.d (.int .u8 what)) ∧ Lay st [.box p6 [.d (.str (T.name)), .d (.int .i64 (T.number)), .d (.int .i64 T.version), vT, .d (.sl (T.faults.map Fl.row)), vP], .box p5 [.d (.str (T.name)), .d (.int .i64 (T.number)), .d (.int .i64 T.version), .d (.sl (T.types.map Al.row)), .d (.sl (T.faults.map Fl.row)), .d (.sl (T.procs.map Pc.row))]] u) ?_ ?_
    · skip
      refine po_appBL hL rfl rfl rfl hr3 (by simp; omega) (fun h0 hL => ?_) (fun b cap t hne0 hcap hL => ?_)
      · skip
        refine gor hL ?_; (repeat (clear hL; intro t hL; refine gor hL ?_))
        exact ⟨_, _, .refl _ _, .full [], VF.nil h0, tr2, hL.pk⟩
      · skip
        refine gor hL ?_; (repeat (clear hL; intro t hL; refine gor hL ?_))
        have ec : (AV.bsl b 0 (T.procs.map Pc.row).length cap).cells = [.bsl b 0 (T.procs.map Pc.row).length cap] := rfl
        have e1 : AV.frz1 b (T.procs.map Pc.row) (.bsl b 0 (T.procs.map Pc.row).length cap) = .d (.sl (T.procs.map Pc.row)) := if_pos ⟨rfl, rfl, rfl⟩
        have f0_e := fvT.frz1 b (T.procs.map Pc.row)
        obtain ⟨t2, hz, hL⟩ := (hL.rem (x := .box b ((T.procs.map Pc.row).flatten.map .d ++ List.replicate ((cap - (T.procs.map Pc.row).length) * 12) .undef)) (by repeat (first | exact Rem.head | apply Rem.tail))).frz hr3 (cells_weak _ _)
        simp only [List.map_cons, List.map_nil, Item.frz, ec, List.cons_append, List.nil_append, e1, f0_e, pvf] at hL
        refine ⟨_, t2, hz _, .d (.sl (T.procs.map Pc.row)), VF.sl _, ?_, hL.pk⟩
        refine Eq.trans (congrArg (a₂ := put (put (put (fun _ => .undef) (some 6) (ptrAt p6)) (some 5) (ptrAt p5)) (some 1) (.d (.int .u8 what))) (fun (f : Slots) => fun i => AV.frz b (T.procs.map Pc.row) (f i)) tr2) ?_
        simp only [frz_put, frz_undef]
        rfl
    rintro s t ⟨vP, fvP, rfl, hL⟩
    obtain ⟨fvP_r, fvP_w, fvP_w1, fvP_c, fvP_s, fvP_d⟩ := id fvP
    refine gor hL ?_; (repeat (clear hL; intro t hL; refine gor hL ?_))
    refine pjoinF (fun s u => ∃ (T' : TB) (tn : Bool) (w1 w2 w3 : AV), s = put (put (put (fun _ => .undef) (some 7) (b2 tn)) (some 6) (ptrAt p6)) (some 5) (ptrAt p5) ∧ Lay st [.box p6 [.d (.str T'.name), .d (.int .i64 T'.number), .d (.int .i64 T'.version), w1, w2, w3], .box p5 [.d (.str (T.name)), .d (.int .i64 (T.number)), .d (.int .i64 T.version), .d (.sl (T.types.map Al.row)), .d (.sl (T.faults.map Fl.row)), .d (.sl (T.procs.map Pc.row))]] u ∧ w1.weak1 = .d (.sl (T'.types.map Al.row)) ∧ w2.weak1 = .d (.sl (T'.faults.map Fl.row)) ∧ w3.weak1 = .d (.sl (T'.procs.map Pc.row)) ∧ T'.fit ∧ T.alike T' = !tn ∧ T'.alike T = !tn) ?_ (fun s t ⟨T', tn, w1, w2, w3, e, hL, k1, k2, k3, k4, k5, k6⟩ => e ▸ alikeEnd hQ hL k1 k2 k3 htf k4 k5 k6)
    refine gor hL ?_; (repeat (clear hL; intro t hL; refine gor hL ?_))
    refine gnm ?_; rw [hw]
    refine gor hL ?_; (repeat (clear hL; intro t hL; refine gor hL ?_))
    refine gnm ?_; (try simp only [pvz])
    refine gor hL ?_; (repeat (clear hL; intro t hL; refine gor hL ?_))
    refine gnm ?_; (try simp only [pvz])
    refine gor hL ?_; (repeat (clear hL; intro t hL; refine gor hL ?_))
    refine gnm ?_; (try simp only [pvz])
    refine gor hL ?_; (repeat (clear hL; intro t hL; refine gor hL ?_))
    refine gnm ?_; (try simp only [pvz])
    refine gor hL ?_; (repeat (clear hL; intro t hL; refine gor hL ?_))
    refine gnm ?_; (try simp only [pvz])
    refine gor hL ?_; (repeat (clear hL; intro t hL; refine gor hL ?_))
    refine gnm ?_; (try simp only [pvz])
    refine gor hL ?_; (repeat (clear hL; intro t hL; refine gor hL ?_))
    refine gnm ?_; (try simp only [pvz])
    refine gor hL ?_; (repeat (clear hL; intro t hL; refine gor hL ?_))
    refine gnm ?_; (try simp only [pvz])
    refine gor hL ?_; (repeat (clear hL; intro t hL; refine gor hL ?_))
    exact ⟨_, _, .refl _ _, T, false, vT, .d (.sl (T.faults.map Fl.row)), vP, tr2, hL.pk, fvT_w1, rfl, fvP_w1, htf, alike_self T, alike_self T⟩
end Go.Pv
