/- Functions of the program, by value. No condition. -/
import Derived.Test.YtdggkhnelmonkaaDoorF42
import Derived.Test.YtdggkhnelmonkaaDoorF38
import Derived.Test.YtdggkhnelmonkaaDoorF27
import Derived.Test.YtdggkhnelmonkaaDoorF24
import Derived.Test.YtdggkhnelmonkaaDoorL5
import Derived.Test.YtdggkhnelmonkaaDoorP32
namespace Go.Pv
open Go.Proofs
set_option maxRecDepth 100000
set_option maxHeartbeats 8000000
/-- prompter/prompterlaw06.ParseAny -/
abbrev c6_2 : PCode :=
 (.seq (.region [⟨(.some 10), (.mov (.c (.d (.bool .false)))), .none⟩])
 .ret)
abbrev c6_1 : PCode :=
 (.cond (.t 26)
  c6_2
  .skip)
abbrev c6_5 : PCode :=
 (.seq (.region [⟨(.some 10), (.mov (.c (.d (.bool .true)))), .none⟩])
 .ret)
abbrev c6_4 : PCode :=
 (.cond (.t 34)
  c6_5
  .skip)
abbrev c6_12 : PCode :=
 (.region [⟨(.some 59), (.bsl 1 []), .none⟩,
   ⟨(.some 60), (.mov (.t 11)), .none⟩,
   ⟨(.some 61), (.mov (.t 12)), .none⟩,
   ⟨(.some 62), (.slc 1 (.t 60) .none (.some (.t 61))), .none⟩,
   ⟨(.some 63), (.app 1 16 (.t 59) (.t 62)), .none⟩,
   ⟨(.some 64), (.mov (.t 11)), .none⟩,
   ⟨(.some 65), (.mov (.t 12)), .none⟩,
   ⟨(.some 66), (.bin .add (.t 65) (.c (.d (.int .i64 1)))), .none⟩,
   ⟨(.some 67), (.slc 1 (.t 64) (.some (.t 66)) .none), .none⟩,
   ⟨(.some 68), (.app 1 16 (.t 63) (.t 67)), .none⟩,
   ⟨(.some 11), (.mov (.t 68)), .none⟩])
abbrev c6_15 : PCode :=
 (.region [⟨(.some 71), (.bsl 1 []), .none⟩,
   ⟨(.some 72), (.mov (.t 11)), .none⟩,
   ⟨(.some 73), (.mov (.t 12)), .none⟩,
   ⟨(.some 74), (.slc 1 (.t 72) .none (.some (.t 73))), .none⟩,
   ⟨(.some 75), (.app 1 16 (.t 71) (.t 74)), .none⟩,
   ⟨(.some 76), (.mov (.t 13)), .none⟩,
   ⟨(.some 77), (.bsl 1 [(.t 76)]), .none⟩,
   ⟨(.some 78), (.app 1 16 (.t 75) (.t 77)), .none⟩,
   ⟨(.some 79), (.mov (.t 11)), .none⟩,
   ⟨(.some 80), (.mov (.t 12)), .none⟩,
   ⟨(.some 81), (.slc 1 (.t 79) (.some (.t 80)) .none), .none⟩,
   ⟨(.some 82), (.app 1 16 (.t 78) (.t 81)), .none⟩,
   ⟨(.some 11), (.mov (.t 82)), .none⟩])
abbrev c6_17 : PCode :=
 (.region [⟨(.some 53), (.mov (.t 11)), .none⟩,
   ⟨(.some 54), (.mov (.t 12)), .none⟩,
   ⟨(.some 55), (.mov (.t 13)), .none⟩,
   ⟨(.some 56), (.iaddr 1 (.t 53) (.t 54)), .none⟩,
   ⟨.none, (.store 1 (.t 56) (.t 55)), .none⟩])
abbrev c6_16 : PCode :=
 (.seq (.region [⟨(.some 50), (.bsl 1 []), .none⟩,
   ⟨(.some 51), (.mov (.t 11)), .none⟩,
   ⟨(.some 52), (.appB 1 16 (.t 50) (.t 51)), .none⟩,
   ⟨(.some 11), (.mov (.t 52)), .none⟩])
 c6_17)
abbrev c6_14 : PCode :=
 (.cond (.t 69)
  c6_15
  c6_16)
abbrev c6_13 : PCode :=
 (.seq (.region [⟨(.some 70), (.bin .eql (.t 49) (.c (.d (.int .u8 1)))), .none⟩,
   ⟨(.some 69), (.mov (.t 70)), .none⟩])
 c6_14)
abbrev c6_11 : PCode :=
 (.cond (.t 57)
  c6_12
  c6_13)
abbrev c6_10 : PCode :=
 (.block 0 (.seq (.region [⟨(.some 58), (.bin .eql (.t 49) (.c (.d (.int .u8 0)))), .none⟩,
   ⟨(.some 57), (.mov (.t 58)), .none⟩])
 c6_11))
abbrev c6_26 : PCode :=
 (.seq (.region [⟨(.some 10), (.mov (.c (.d (.bool .false)))), .none⟩])
 .ret)
abbrev c6_25 : PCode :=
 (.cond (.t 108)
  c6_26
  .skip)
abbrev c6_30 : PCode :=
 (.seq (.region [⟨(.some 10), (.mov (.c (.d (.bool .false)))), .none⟩])
 .ret)
abbrev c6_29 : PCode :=
 (.cond (.t 124)
  c6_30
  .skip)
abbrev c6_31 : PCode :=
 (.keep [88, 89, 90] (.exit 2))
abbrev c6_28 : PCode :=
 (.keep [16, 19, 21, 88, 89, 90] (.seq (.seq (.region [⟨(.some 117), (.mov (.t 21)), .none⟩,
   ⟨(.some 118), (.bin .neq (.t 117) (.c (.d (.int .i64 0)))), .none⟩,
   ⟨(.some 119), (.mov (.t 118)), .none⟩,
   ⟨(.some 120), (.load .true 6 (.t 16) .false), (.some (119, .false))⟩,
   ⟨(.some 121), (.load .true 6 (.t 19) .false), (.some (119, .false))⟩,
   ⟨(.some 122), (.call0 20 [(.t 120), (.t 121)]), (.some (119, .false))⟩,
   ⟨(.some 123), (.not (.t 122)), (.some (119, .false))⟩,
   ⟨(.some 124), (.pick (.t 119) (.c (.d (.bool .true))) (.t 123)), .none⟩])
 c6_29)
 c6_31))
abbrev c6_27 : PCode :=
 (.keep [16, 88, 89, 90] (.seq (.region [⟨(.some 110), (.load .true 6 (.t 16) .false), .none⟩,
   ⟨(.some 111), (.call0 16 [(.t 110)]), .none⟩,
   ⟨(.some 112), (.call0 17 [(.t 111), (.c (.full []))]), .none⟩,
   ⟨(.some 113), (.call0 19 [(.t 112)]), .none⟩,
   ⟨(.some 109), (.mov (.t 113)), .none⟩,
   ⟨(.some 114), (.ext (.t 109) 0), .none⟩,
   ⟨(.some 115), (.ext (.t 109) 1), .none⟩,
   ⟨(.some 116), (.ext (.t 109) 2), .none⟩,
   ⟨(.some 19), (.alloc [(.d (.str (bs []))), (.d (.int .i64 0)), (.d (.int .i64 0)), (.full []), (.full []), (.full [])]), .none⟩,
   ⟨.none, (.store 6 (.t 19) (.t 114)), .none⟩,
   ⟨(.some 20), (.mov (.t 115)), .none⟩,
   ⟨(.some 21), (.mov (.t 116)), .none⟩])
 c6_28))
abbrev c6_24 : PCode :=
 (.seq (.seq (.region [⟨(.some 102), (.load .true 6 (.t 16) .false), .none⟩,
   ⟨(.some 103), (.call0 18 [(.t 102)]), .none⟩,
   ⟨(.some 104), (.bin .neq (.t 103) (.c (.d (.int .i64 0)))), .none⟩,
   ⟨(.some 105), (.mov (.t 104)), .none⟩,
   ⟨(.some 106), (.mov (.t 17)), (.some (105, .false))⟩,
   ⟨(.some 107), (.bin .neq (.t 106) (.c (.d (.int .i64 0)))), (.some (105, .false))⟩,
   ⟨(.some 108), (.pick (.t 105) (.c (.d (.bool .true))) (.t 107)), .none⟩])
 c6_25)
 c6_27)
abbrev c6_23 : PCode :=
 (.cond (.t 101)
  c6_24
  .skip)
abbrev c6_34 : PCode :=
 (.seq (.region [⟨(.some 10), (.mov (.c (.d (.bool .false)))), .none⟩])
 .ret)
abbrev c6_33 : PCode :=
 (.cond (.t 138)
  c6_34
  .skip)
abbrev c6_38 : PCode :=
 (.seq (.region [⟨(.some 10), (.mov (.c (.d (.bool .false)))), .none⟩])
 .ret)
abbrev c6_37 : PCode :=
 (.cond (.t 156)
  c6_38
  .skip)
abbrev c6_36 : PCode :=
 (.keep [17, 18, 23, 24, 88, 89, 90] (.seq (.region [⟨(.some 145), (.mov (.t 24)), .none⟩,
   ⟨(.some 146), (.bin .neq (.t 145) (.c (.d (.int .i64 0)))), .none⟩,
   ⟨(.some 147), (.mov (.t 146)), .none⟩,
   ⟨(.some 148), (.mov (.t 18)), (.some (147, .true))⟩,
   ⟨(.some 149), (.mov (.t 24)), (.some (147, .true))⟩,
   ⟨(.some 150), (.bin .neq (.t 148) (.t 149)), (.some (147, .true))⟩,
   ⟨(.some 151), (.mov (.t 150)), (.some (147, .true))⟩,
   ⟨(.some 152), (.mov (.t 17)), (.some (151, .false))⟩,
   ⟨(.some 153), (.mov (.t 23)), (.some (151, .false))⟩,
   ⟨(.some 154), (.bin .neq (.t 152) (.t 153)), (.some (151, .false))⟩,
   ⟨(.some 155), (.pick (.t 151) (.c (.d (.bool .true))) (.t 154)), (.some (147, .true))⟩,
   ⟨(.some 156), (.pick (.t 147) (.t 155) (.c (.d (.bool .false)))), .none⟩])
 c6_37))
abbrev c6_35 : PCode :=
 (.keep [15, 17, 18, 88, 89, 90] (.seq (.region [⟨(.some 140), (.mov (.t 15)), .none⟩,
   ⟨(.some 141), (.call0 21 [(.t 140)]), .none⟩,
   ⟨(.some 139), (.mov (.t 141)), .none⟩,
   ⟨(.some 142), (.ext (.t 139) 0), .none⟩,
   ⟨(.some 143), (.ext (.t 139) 1), .none⟩,
   ⟨(.some 144), (.ext (.t 139) 2), .none⟩,
   ⟨(.some 22), (.mov (.t 142)), .none⟩,
   ⟨(.some 23), (.mov (.t 143)), .none⟩,
   ⟨(.some 24), (.mov (.t 144)), .none⟩])
 c6_36))
abbrev c6_32 : PCode :=
 (.seq (.seq (.region [⟨(.some 125), (.load .true 6 (.t 16) .false), .none⟩,
   ⟨(.some 126), (.bld [(.d (.str (bs []))), (.d (.int .i64 0)), (.d (.int .i64 0)), (.full []), (.full []), (.full [])] []), .none⟩,
   ⟨(.some 127), (.call0 20 [(.t 125), (.t 126)]), .none⟩,
   ⟨(.some 128), (.not (.t 127)), .none⟩,
   ⟨(.some 129), (.mov (.t 128)), .none⟩,
   ⟨(.some 130), (.mov (.t 17)), (.some (129, .false))⟩,
   ⟨(.some 131), (.bin .lss (.t 130) (.c (.d (.int .i64 0)))), (.some (129, .false))⟩,
   ⟨(.some 132), (.pick (.t 129) (.c (.d (.bool .true))) (.t 131)), .none⟩,
   ⟨(.some 133), (.mov (.t 132)), .none⟩,
   ⟨(.some 134), (.mov (.t 17)), (.some (133, .false))⟩,
   ⟨(.some 135), (.mov (.t 15)), (.some (133, .false))⟩,
   ⟨(.some 136), (.lenS (.t 135)), (.some (133, .false))⟩,
   ⟨(.some 137), (.bin .gtr (.t 134) (.t 136)), (.some (133, .false))⟩,
   ⟨(.some 138), (.pick (.t 133) (.c (.d (.bool .true))) (.t 137)), .none⟩])
 c6_33)
 c6_35)
abbrev c6_22 : PCode :=
 (.keep [15, 16, 17, 18, 88, 89, 90] (.seq (.seq (.region [⟨(.some 100), (.mov (.t 18)), .none⟩,
   ⟨(.some 101), (.bin .eql (.t 100) (.c (.d (.int .i64 0)))), .none⟩])
 c6_23)
 c6_32))
abbrev c6_21 : PCode :=
 (.keep [15, 88, 89, 90] (.seq (.region [⟨(.some 95), (.mov (.t 15)), .none⟩,
   ⟨(.some 96), (.call0 19 [(.t 95)]), .none⟩,
   ⟨(.some 94), (.mov (.t 96)), .none⟩,
   ⟨(.some 97), (.ext (.t 94) 0), .none⟩,
   ⟨(.some 98), (.ext (.t 94) 1), .none⟩,
   ⟨(.some 99), (.ext (.t 94) 2), .none⟩,
   ⟨(.some 16), (.alloc [(.d (.str (bs []))), (.d (.int .i64 0)), (.d (.int .i64 0)), (.full []), (.full []), (.full [])]), .none⟩,
   ⟨.none, (.store 6 (.t 16) (.t 97)), .none⟩,
   ⟨(.some 17), (.mov (.t 98)), .none⟩,
   ⟨(.some 18), (.mov (.t 99)), .none⟩])
 c6_22))
abbrev c6_20 : PCode :=
 (.block 2 (.seq (.region [⟨(.some 92), (.iaddr 1 (.t 88) (.t 90)), .none⟩,
   ⟨(.some 93), (.load .false 1 (.t 92) .false), .none⟩,
   ⟨(.some 15), (.mov (.t 93)), .none⟩])
 c6_21))
abbrev c6_19 : PCode :=
 (.keep [88, 89, 90] (.block 1 (.loop (.some [90, 88, 89]) (.seq (.region [⟨(.some 91), (.bin .lss (.t 90) (.t 89)), .none⟩])
 (.seq (.cond (.t 91)
  .skip
  (.exit 1))
 (.seq c6_20
 (.region [⟨(.some 157), (.bin .add (.t 90) (.c (.d (.int .i64 1)))), .none⟩,
   ⟨(.some 90), (.mov (.t 157)), .none⟩])))))))
abbrev c6_39 : PCode :=
 (.seq (.region [⟨(.some 10), (.mov (.c (.d (.bool .true)))), .none⟩])
 .ret)
abbrev c6_18 : PCode :=
 (.keep [0, 11] (.seq (.seq (.region [⟨(.some 83), (.mov (.t 0)), .none⟩,
   ⟨(.some 84), (.mov (.t 11)), .none⟩,
   ⟨(.some 85), (.call0 17 [(.t 84), (.c (.full []))]), .none⟩,
   ⟨(.some 86), (.mov (.t 0)), .none⟩,
   ⟨(.some 87), (.bin .add (.c (.d (.str (bs [112, 114, 111, 103, 114, 97, 109, 32, 97, 32, 49, 32, 118, 101, 114, 115, 105, 111, 110, 32, 50, 32, 123])))) (.t 86)), .none⟩,
   ⟨(.some 88), (.bsl 1 [(.t 83), (.t 85), (.t 87)]), .none⟩,
   ⟨(.some 89), (.len (.t 88)), .none⟩,
   ⟨(.some 90), (.mov (.c (.d (.int .i64 0)))), .none⟩])
 c6_19)
 c6_39))
abbrev c6_9 : PCode :=
 (.keep [0, 4, 11, 12, 13] (.seq (.seq (.region [⟨(.some 48), (.mov (.t 4)), .none⟩,
   ⟨(.some 49), (.bin .rem (.t 48) (.c (.d (.int .u8 3)))), .none⟩])
 c6_10)
 c6_18))
abbrev c6_8 : PCode :=
 (.keep [0, 3, 4, 11, 12] (.seq (.region [⟨(.some 43), (.bsl 1 [(.c (.d (.str (bs [123])))), (.c (.d (.str (bs [125])))), (.c (.d (.str (bs [59])))), (.c (.d (.str (bs [114, 101, 99, 111, 114, 100])))), (.c (.d (.str (bs [120, 57])))), (.c (.d (.str (bs [55])))), (.c (.d (.str (bs [115, 101, 113])))), (.c (.d (.str (bs [44])))), (.c (.d (.str (bs [91])))), (.c (.d (.str (bs [97, 108, 108])))), (.c (.d (.str (bs [58])))), (.c (.d (.str (bs [61]))))]), .none⟩,
   ⟨(.some 44), (.mov (.t 3)), .none⟩,
   ⟨(.some 45), (.bin .rem (.t 44) (.c (.d (.int .u8 12)))), .none⟩,
   ⟨(.some 46), (.iaddr 1 (.t 43) (.t 45)), .none⟩,
   ⟨(.some 47), (.load .false 1 (.t 46) .false), .none⟩,
   ⟨(.some 13), (.mov (.t 47)), .none⟩])
 c6_9))
abbrev c6_7 : PCode :=
 (.keep [0, 2, 3, 4, 11] (.seq (.region [⟨(.some 38), (.mov (.t 2)), .none⟩,
   ⟨(.some 39), (.cvt .i64 (.t 38)), .none⟩,
   ⟨(.some 40), (.mov (.t 11)), .none⟩,
   ⟨(.some 41), (.len (.t 40)), .none⟩,
   ⟨(.some 42), (.bin .rem (.t 39) (.t 41)), .none⟩,
   ⟨(.some 12), (.mov (.t 42)), .none⟩])
 c6_8))
abbrev c6_6 : PCode :=
 (.keep [0, 2, 3, 4, 6] (.seq (.region [⟨(.some 35), (.load .true 4 (.t 6) .false), .none⟩,
   ⟨(.some 36), (.call0 15 [(.t 35)]), .none⟩,
   ⟨(.some 37), (.call0 16 [(.t 36)]), .none⟩,
   ⟨(.some 11), (.mov (.t 37)), .none⟩])
 c6_7))
abbrev c6_3 : PCode :=
 (.keep [0, 2, 3, 4, 6] (.seq (.seq (.region [⟨(.some 27), (.load .true 4 (.t 6) .false), .none⟩,
   ⟨(.some 28), (.call0 14 [(.t 27)]), .none⟩,
   ⟨(.some 29), (.not (.t 28)), .none⟩,
   ⟨(.some 30), (.mov (.t 29)), .none⟩,
   ⟨(.some 31), (.mov (.t 0)), (.some (30, .false))⟩,
   ⟨(.some 32), (.lenS (.t 31)), (.some (30, .false))⟩,
   ⟨(.some 33), (.bin .gtr (.t 32) (.c (.d (.int .i64 300)))), (.some (30, .false))⟩,
   ⟨(.some 34), (.pick (.t 30) (.c (.d (.bool .true))) (.t 33)), .none⟩])
 c6_4)
 c6_6))
abbrev c6_0 : PCode :=
 (.seq (.seq (.region [⟨(.some 25), (.call0 13 []), .none⟩,
   ⟨(.some 26), (.not (.t 25)), .none⟩])
 c6_1)
 c6_3)
def c6 : PFun := ⟨
 (.seq (.region [⟨(.some 6), (.box 4 (.t 1)), .none⟩,
   ⟨(.some 10), (.mov (.c (.d (.bool .false)))), .none⟩])
 c6_0),
 5, 158, [(.tmp 10)]⟩

theorem e6 : entered Tryd.prog 6 = true := by kernel_rfl
theorem k6 : compFun Tryd.prog (fun i => if i = 9 then 8 else 0) 6 = some c6.er := by kernel_rfl

/-- Tokens that may be put in. -/
def putT : List Tk := [(3, sOpen), (3, sClose), (3, sSemi), (1, kRecord), (1, bs [120, 57]), (2, bs [55]), (1, kSeq), (3, sComma), (3, sBraL), (1, kAll), (3, sColon), (3, sEq)]
theorem putT_good : ∀ x ∈ putT, goodT x := good_all (by decide +kernel)
theorem iaddr_u8 {G : Glob} {s : Slots} {a b : Arg} {rows : List (List Dat)} {r : List Dat} {k : Nat} (ha : a.ev G s = .full rows) (hb : b.ev G s = .d (.int .u8 k)) (hk : rows[k]? = some r) (hr : r.length = 1) : ev G s (.iaddr 1 a b) = some (.elt r) := by
  have hl : k < rows.length := (List.getElem?_eq_some_iff.1 hk).1
  have hg : rows.getD k [] = r := by rw [List.getD_eq_getElem?_getD, hk]; rfl
  simp only [ev, ha, hb, AV.rows?, Option.bind_some, Int.toNat_natCast, hg]
  rw [if_pos ⟨by omega, by omega, hr⟩]
theorem iaddr_bx {G : Glob} {s : Slots} {a x : Arg} {b n cap sz k : Nat} (ha : a.ev G s = .bsl b 0 n cap) (hx : x.ev G s = i64 k) (hn : k < n) : ev G s (.iaddr sz a x) = some (.d (.ptr b (k * sz))) := iaddr_bslZ ha hx hn
theorem nil_rows {sz : Nat} : ∀ r ∈ ([] : List (List Dat)), r.length = sz := fun _ h => by cases h
theorem srows_cells (l : List ByteArray) : (srows l).flatten.map AV.d = l.map fun s => AV.d (.str s) := by
  induction l with
  | nil => rfl
  | cons x l ih => rw [List.map_cons, ← ih]; rfl
theorem C6 (raw : ByteArray) (s : Sm) (hs : s.fit) (cut : Int) (hc : 0 ≤ cut ∧ cut ≤ 65535) (pn : Int) (hp : 0 ≤ pn ∧ pn ≤ 255) (wn : Int) (hw : 0 ≤ wn ∧ wn ≤ 255) :
    Pure (PCalls Tryd.prog GK) 6 [.d (.str raw), s.av, .d (.int .u16 cut), .d (.int .u8 pn), .d (.int .u8 wn)] (b2 true) := by
  have hT := sm_pt hs
  have hlen := sm_len hs
  have hC16 := C16 hT (by omega)
  have hC15 := C15 s hs
  have hlg := C14 s hs
  generalize hTT : s.tb = T at *
  have hTl : (TX T.toks).length = T.toks.length := List.length_map _
  have hgood := good_table hT
  have hpos : 0 < T.toks.length := by rw [TB.toks]; simp
  intro st; refine pcalls_of k6 e6 (of_decide_eq_true rfl) ?_; dsimp only [c6]; refine pstartL ?_; intro t hL; generalize hQ : pfin _ _ = Q
  (refine gor hL ?_; (repeat (clear hL; intro t hL; refine gor hL ?_))); refine po_boxA hL ?_; clear hL; intro p6 t hL
  refine gor hL ?_; (repeat (clear hL; intro t hL; refine gor hL ?_)); (repeat (refine pseqk ?_; refine gor hL ?_; (repeat (clear hL; intro t hL; refine gor hL ?_))))
  refine po_c0 (C13) ?_
  refine gor hL ?_; (repeat (clear hL; intro t hL; refine gor hL ?_)); (repeat (refine pseqk ?_; refine gor hL ?_; (repeat (clear hL; intro t hL; refine gor hL ?_))))
  refine po_c0 (hlg) ?_
  refine gor hL ?_; (repeat (clear hL; intro t hL; refine gor hL ?_))
  cases hlt : s.light with
  | false =>
    rw [hlt] at *
    refine gor hL ?_; (repeat (clear hL; intro t hL; refine gor hL ?_))
    rw [← hQ]
    exact pfin_pure rfl hL.le
  | true =>
    rw [hlt] at *
    refine gor hL ?_; (repeat (clear hL; intro t hL; refine gor hL ?_))
    by_cases h50 : raw.size > 300
    · refine gnm ?_; rw [decide_eq_true (show (raw.size : Int) > 300 by omega)]
      refine gor hL ?_; (repeat (clear hL; intro t hL; refine gor hL ?_))
      rw [← hQ]
      exact pfin_pure rfl hL.le
    refine gnm ?_; rw [decide_eq_false (show ¬ (raw.size : Int) > 300 by omega)]
    refine gor hL ?_; (repeat (clear hL; intro t hL; refine gor hL ?_))
    refine po_c0 (hC15) ?_
    refine gor hL ?_; (repeat (clear hL; intro t hL; refine gor hL ?_))
    refine po_c0 (hC16) ?_
    refine gor hL ?_; (repeat (clear hL; intro t hL; refine gor hL ?_))
    obtain ⟨i, hk, hil⟩ : ∃ i : Nat, cut.tmod ((TX T.toks).length : Int) = (i : Int) ∧ i < T.toks.length := by
      rw [Int.tmod_eq_emod_of_nonneg hc.1, hTl]
      have h1 := Int.emod_nonneg cut (show (T.toks.length : Int) ≠ 0 by omega)
      have h2 := Int.emod_lt_of_pos cut (show 0 < (T.toks.length : Int) by omega)
      exact ⟨(cut % (T.toks.length : Int)).toNat, by omega, by omega⟩
    refine gnm ?_; rw [IntWalk.i64_in cut (by omega)]
    refine gnm ?_; rw [hk]
    refine gor hL ?_; (repeat (clear hL; intro t hL; refine gor hL ?_))
    obtain ⟨j, hj, hjl⟩ : ∃ j : Nat, pn.tmod 12 = (j : Int) ∧ j < 12 := by
      rw [Int.tmod_eq_emod_of_nonneg hp.1]
      exact ⟨(pn % 12).toNat, by omega, by omega⟩
    obtain ⟨q, hq⟩ : ∃ q, putT[j]? = some q := ⟨_, List.getElem?_eq_getElem (show j < putT.length from hjl)⟩
    have hqg := putT_good q (List.mem_of_getElem? hq)
    have hqr : (srows (TX putT))[j]? = some [.str q.2] := by rw [srows, TX, List.map_map, List.getElem?_map, hq]; rfl
    refine gnm ?_; rw [hj]
    refine po rfl (iaddr_u8 (rows := srows (TX putT)) (k := j) rfl rfl hqr rfl) ?_
    refine gor hL ?_; (repeat (clear hL; intro t hL; refine gor hL ?_))
    have hwm : wn.tmod 3 = wn % 3 := Int.tmod_eq_emod_of_nonneg hw.1
    have hw3 : wn % 3 = 0 ∨ wn % 3 = 1 ∨ wn % 3 = 2 := by omega
    refine pjoinF (fun s t => ∃ (X : List Tk) (v : AV), (∀ x ∈ X, goodT x) ∧ X.length ≤ 20001 ∧ VF v (srows (TX X)) ∧ s = put (put (fun _ => .undef) (some 11) v) (some 0) (.d (.str raw)) ∧ Lay st [] t) ?_ ?_
    · refine gor hL ?_; (repeat (clear hL; intro t hL; refine gor hL ?_))
      refine gnm ?_; rw [hwm]
      generalize wn % 3 = w at *
      have e1 : (TX T.toks).take i = TX (T.toks.take i) := List.map_take.symm
      have e2 : (TX T.toks).drop i = TX (T.toks.drop i) := List.map_drop.symm
      have e3 : (TX T.toks).drop (i + 1) = TX (T.toks.drop (i + 1)) := List.map_drop.symm
      by_cases h0 : w = 0
      · refine gnm ?_; rw [show (w == 0) = true by rw [h0]; rfl]
        refine gor hL ?_; (repeat (clear hL; intro t hL; refine gor hL ?_))
        refine po rfl (ev_to (rows := srows (TX T.toks)) (k := i) rfl rfl (by rw [len_srows, hTl]; omega)) ?_
        rw [show (srows (TX T.toks)).take i = srows ((TX T.toks).take i) from (List.map_take ..).symm, e1]
        replace hL := hL.full [] 1
        refine po_appA hL (hn := srows_one (l := TX (T.toks.take i))) nil_rows ?_ ?_; (· (rw [len_srows, TX, List.length_map, List.length_take]; simp only [List.length_nil]; omega)); clear hL; intro v1 t fv1 hL; obtain ⟨fv1_r, fv1_w, fv1_w1, fv1_c, fv1_s, fv1_d⟩ := id fv1
        rw [List.nil_append] at hL fv1 fv1_r
        refine gor hL ?_; (repeat (clear hL; intro t hL; refine gor hL ?_))
        refine gnm ?_; rw [IntWalk.i64_in ((i : Int) + 1) (by omega)]
        refine gor hL ?_; (repeat (clear hL; intro t hL; refine gor hL ?_))
        refine po rfl (ev_from (rows := srows (TX T.toks)) (k := i + 1) rfl rfl (by rw [len_srows, hTl]; omega) (fun r hr => srows_one r hr)) ?_
        rw [show (srows (TX T.toks)).drop (i + 1) = srows ((TX T.toks).drop (i + 1)) from (List.map_drop ..).symm, e3]
        refine po_appA hL (hn := srows_one (l := TX (T.toks.drop (i + 1)))) srows_one ?_ ?_; (· (simp only [len_srows, TX, List.length_map, List.length_append, List.length_take, List.length_drop, List.length_cons, List.length_nil]; omega)); clear hL; intro v2 t fv2 hL; obtain ⟨fv2_r, fv2_w, fv2_w1, fv2_c, fv2_s, fv2_d⟩ := id fv2
        rw [srows_app, ← List.map_append] at hL fv2
        refine gor hL ?_; (repeat (clear hL; intro t hL; refine gor hL ?_))
        refine ⟨_, _, .refl _ _, T.toks.take i ++ T.toks.drop (i + 1), v2, fun x hx => ?_, ?_, fv2, tr2, hL.pk⟩
        · exact (List.mem_append.1 hx).elim (fun h => hgood x (List.mem_of_mem_take h)) (fun h => hgood x (List.mem_of_mem_drop h))
        · rw [List.length_append, List.length_take, List.length_drop]; omega
      refine gnm ?_; rw [show (w == 0) = false by simpa using h0]
      refine gor hL ?_; (repeat (clear hL; intro t hL; refine gor hL ?_))
      by_cases h1 : w = 1
      · refine gnm ?_; rw [show (w == 1) = true by rw [h1]; rfl]
        refine gor hL ?_; (repeat (clear hL; intro t hL; refine gor hL ?_))
        refine po rfl (ev_to (rows := srows (TX T.toks)) (k := i) rfl rfl (by rw [len_srows, hTl]; omega)) ?_
        rw [show (srows (TX T.toks)).take i = srows ((TX T.toks).take i) from (List.map_take ..).symm, e1]
        replace hL := hL.full [] 1
        refine po_appA hL (hn := srows_one (l := TX (T.toks.take i))) nil_rows ?_ ?_; (· (rw [len_srows, TX, List.length_map, List.length_take]; simp only [List.length_nil]; omega)); clear hL; intro v1 t fv1 hL; obtain ⟨fv1_r, fv1_w, fv1_w1, fv1_c, fv1_s, fv1_d⟩ := id fv1
        rw [List.nil_append] at hL fv1 fv1_r
        refine gor hL ?_; (repeat (clear hL; intro t hL; refine gor hL ?_))
        refine po_appA hL (hn := srows_one (l := TX [q])) srows_one ?_ ?_; (· (simp only [len_srows, TX, List.length_map, List.length_append, List.length_take, List.length_drop, List.length_cons, List.length_nil]; omega)); clear hL; intro v2 t fv2 hL; obtain ⟨fv2_r, fv2_w, fv2_w1, fv2_c, fv2_s, fv2_d⟩ := id fv2
        rw [srows_app, ← List.map_append] at hL fv2 fv2_r
        refine gor hL ?_; (repeat (clear hL; intro t hL; refine gor hL ?_))
        refine po rfl (ev_from (rows := srows (TX T.toks)) (k := i) rfl rfl (by rw [len_srows, hTl]; omega) (fun r hr => srows_one r hr)) ?_
        rw [show (srows (TX T.toks)).drop i = srows ((TX T.toks).drop i) from (List.map_drop ..).symm, e2]
        refine po_appA hL (hn := srows_one (l := TX (T.toks.drop i))) srows_one ?_ ?_; (· (simp only [len_srows, TX, List.length_map, List.length_append, List.length_take, List.length_drop, List.length_cons, List.length_nil]; omega)); clear hL; intro v3 t fv3 hL; obtain ⟨fv3_r, fv3_w, fv3_w1, fv3_c, fv3_s, fv3_d⟩ := id fv3
        rw [srows_app, ← List.map_append] at hL fv3
        refine gor hL ?_; (repeat (clear hL; intro t hL; refine gor hL ?_))
        refine ⟨_, _, .refl _ _, T.toks.take i ++ [q] ++ T.toks.drop i, v3, fun x hx => ?_, ?_, fv3, tr2, hL.pk⟩
        · rcases List.mem_append.1 hx with hx | hx
          · rcases List.mem_append.1 hx with hx | hx
            · exact hgood x (List.mem_of_mem_take hx)
            · rw [List.mem_singleton.1 hx]; exact hqg
          · exact hgood x (List.mem_of_mem_drop hx)
        · rw [List.length_append, List.length_append, List.length_take, List.length_drop, List.length_singleton]; omega
      refine gnm ?_; rw [show (w == 1) = false by simpa using h1]
      refine gor hL ?_; (repeat (clear hL; intro t hL; refine gor hL ?_))
      refine po_appBL hL rfl rfl rfl (srows_one (l := TX T.toks)) (by rw [len_srows, hTl]; omega) (fun h0 hL => ?_) ?_
      · have := congrArg List.length h0
        rw [len_srows, hTl, List.length_nil] at this; omega
      clear hL
      intro b cap t hne0 hcap hL
      rw [len_srows, hTl] at hL hcap ⊢
      refine gor hL ?_; (repeat (clear hL; intro t hL; refine gor hL ?_))
      refine po rfl (iaddr_bx rfl rfl hil) ?_
      refine gor hL ?_; (repeat (clear hL; intro t hL; refine gor hL ?_))
      refine po_storeL (out := (srows (TX (T.toks.set i q))).flatten.map AV.d ++ List.replicate ((cap - T.toks.length) * 1) AV.undef) hL rfl rfl Rem.head rfl ⟨rfl, rfl⟩ (by rw [srows_cells, List.length_append, List.length_map, hTl]; omega) ?_ (fun _ _ _ h => False.elim h) ?_
      · refine (set_cells srows_one (by rw [len_srows, hTl]; exact hil) [.str q.2] _).trans ?_
        rw [show (srows (TX T.toks)).set i [.str q.2] = srows (TX (T.toks.set i q)) by simp only [srows, TX, List.map_set]]
      clear hL
      intro t hL
      refine gor hL ?_; (repeat (clear hL; intro t hL; refine gor hL ?_))
      have hlen' : T.toks.length = (srows (TX (T.toks.set i q))).length := by rw [len_srows, TX, List.length_map, List.length_set]
      obtain ⟨t2, hz, hL⟩ := hL.frz (rows := srows (TX (T.toks.set i q))) (rest := List.replicate ((cap - T.toks.length) * 1) .undef) srows_one (cells_weak _ _)
      refine ⟨_, t2, hz _, T.toks.set i q, .d (.sl (srows (TX (T.toks.set i q)))), fun x hx => ?_, ?_, VF.sl _, ?_, hL.pk⟩
      · rcases List.mem_or_eq_of_mem_set hx with hx | rfl
        · exact hgood x hx
        · exact hqg
      · rw [List.length_set]; omega
      · refine Eq.trans (congrArg (a₂ := put (put (fun _ => .undef) (some 11) (.bsl b 0 T.toks.length cap)) (some 0) (.d (.str raw))) (fun (f : Slots) => fun k => AV.frz b (srows (TX (T.toks.set i q))) (f k)) tr2) ?_
        simp only [frz_put, frz_undef]
        rw [show AV.frz b (srows (TX (T.toks.set i q))) (.bsl b 0 T.toks.length cap) = .d (.sl (srows (TX (T.toks.set i q)))) from if_pos ⟨rfl, rfl, hlen'⟩]
        rfl
    · rintro s t ⟨X, v, hX, hXl, fv, rfl, hL⟩
      obtain ⟨fv_r, fv_w, fv_w1, fv_c, fv_s, fv_d⟩ := id fv
      have hXt : (TX X).length = X.length := List.length_map _
      have gX := texM_small (TX X) [] (fun x hx => by
        obtain ⟨y, hy, rfl⟩ := List.mem_map.1 hx
        exact (hX y hy).2) (TX X).length (Nat.le_refl _)
      have hCX := C17 (TX X) [] (fun _ h => by cases h) (by decide) (by omega) (by omega)
      rw [List.map_nil] at hCX
      have hXs : ∃ Y : List Tk, (∀ x ∈ Y, goodT x) ∧ texM (TX X) [] (TX X).length = texM (TX Y) [] (TX Y).length := ⟨X, hX, rfl⟩
      generalize texM (TX X) [] (TX X).length = S2 at *
      refine gor hL ?_; (repeat (clear hL; intro t hL; refine gor hL ?_))
      refine po_c0 (hCX) ?_
      refine gor hL ?_; (repeat (clear hL; intro t hL; refine gor hL ?_))
      have zP : (bs [112, 114, 111, 103, 114, 97, 109, 32, 97, 32, 49, 32, 118, 101, 114, 115, 105, 111, 110, 32, 50, 32, 123]).size = 23 := rfl
      refine po rfl (str_add rfl rfl (by rw [zP]; omega)) ?_
      generalize bs [112, 114, 111, 103, 114, 97, 109, 32, 97, 32, 49, 32, 118, 101, 114, 115, 105, 111, 110, 32, 50, 32, 123] = P at *
      refine gor hL ?_; (repeat (clear hL; intro t hL; refine gor hL ?_))
      (apply prangeJ (3) (by omega) (fun i t => Lay st [] t)); (· exact trimA); (· exact fun _ => rfl)
      · exact hL.pk
      · intro t hL
        refine gor hL ?_; (repeat (clear hL; intro t hL; refine gor hL ?_))
        rw [← hQ]
        exact pfin_pure rfl hL.le
      · intro k hk t hL
        obtain ⟨y, hy, hym⟩ := elem_at (l := [raw, S2, P ++ raw]) (k := k) hk
        have hys : (y.size ≤ 2000 ∨ ∃ Y : List Tk, (∀ x ∈ Y, goodT x) ∧ y = texM (TX Y) [] (TX Y).length) ∧ y.size ≤ 800000 := by
          rcases List.mem_cons.1 hym with rfl | hym
          · exact ⟨.inl (by omega), by omega⟩
          rcases List.mem_cons.1 hym with rfl | hym
          · exact ⟨.inr hXs, by omega⟩
          · rw [List.mem_singleton.1 hym]
            exact ⟨.inl (by rw [ByteArray.size_append]; omega), by rw [ByteArray.size_append]; omega⟩
        obtain ⟨hys, hyl⟩ := hys
        have hCP := C19 y (by omega)
        have hCS := C21 y (by omega)
        refine pblock ?_
        refine gor hL ?_; (repeat (clear hL; intro t hL; refine gor hL ?_))
        refine po_iaddrM (l := [raw, S2, P ++ raw]) (f := fun x => [Dat.str x]) rfl rfl rfl hy rfl ?_
        refine gor hL ?_; (repeat (clear hL; intro t hL; refine gor hL ?_))
        by_cases h0 : (parseM y).2.2 = 0
        · obtain ⟨t', h1, h2, h3, h4, h5, h6⟩ := any_ok h0 hys
          have hfit : t'.fit := by have := parseM_fit y; rw [h1] at this; exact this
          have hCk := C18 t' hfit
          have hCa := C20 t' t' hfit
          have hCt := C16 h2 (by omega)
          have hCx := C17 (TX t'.toks) [] (fun _ h => by cases h) (by decide) (by rw [TX, List.length_map]; omega) (by omega)
          have hCq := C19 (texM (TX t'.toks) [] (TX t'.toks).length) (by omega)
          rw [List.map_nil] at hCx
          rw [alike_refl] at hCa
          rw [h3] at hCk
          rw [h1] at hCP
          rw [h6] at hCq
          simp only [parseA] at hCP hCq
          generalize texM (TX t'.toks) [] (TX t'.toks).length = S4 at *
          refine po_c0 (hCP) ?_
          refine gor hL ?_; (repeat (clear hL; intro t hL; refine gor hL ?_))
          (refine gor hL ?_; (repeat (clear hL; intro t hL; refine gor hL ?_))); (with_reducible refine po_allocL hL rfl ?_); clear hL; intro p16 t hL
          refine gor hL ?_; (repeat (clear hL; intro t hL; refine gor hL ?_))
          refine po_c0 (hCk) ?_
          refine gor hL ?_; (repeat (clear hL; intro t hL; refine gor hL ?_))
          refine po_c0 (hCt) ?_
          refine gor hL ?_; (repeat (clear hL; intro t hL; refine gor hL ?_))
          refine po_c0 (hCx) ?_
          refine gor hL ?_; (repeat (clear hL; intro t hL; refine gor hL ?_))
          refine po_c0 (hCq) ?_
          refine gor hL ?_; (repeat (clear hL; intro t hL; refine gor hL ?_))
          (refine gor hL ?_; (repeat (clear hL; intro t hL; refine gor hL ?_))); (with_reducible refine po_allocL hL rfl ?_); clear hL; intro p19 t hL
          refine gor hL ?_; (repeat (clear hL; intro t hL; refine gor hL ?_))
          refine po_c0 (hCa) ?_
          refine gor hL ?_; (repeat (clear hL; intro t hL; refine gor hL ?_))
          exact ⟨hL.pk, trivial⟩
        · obtain ⟨p, e, h1, h2, h3, h4, h5⟩ := any_err h0
          have hCa := C20 TB.zero TB.zero zero_fit
          rw [alike_refl] at hCa
          rw [h1] at hCP
          simp only [parseA, TB.av, TB.zero, List.map_nil] at hCP hCa
          refine po_c0 (hCP) ?_
          refine gor hL ?_; (repeat (clear hL; intro t hL; refine gor hL ?_))
          (refine gor hL ?_; (repeat (clear hL; intro t hL; refine gor hL ?_))); (with_reducible refine po_allocL hL rfl ?_); clear hL; intro p16 t hL
          refine gor hL ?_; (repeat (clear hL; intro t hL; refine gor hL ?_))
          refine gnm ?_; rw [show (e == 0) = false by simpa using h2]
          refine gor hL ?_; (repeat (clear hL; intro t hL; refine gor hL ?_))
          refine po_c0 (hCa) ?_
          refine gor hL ?_; (repeat (clear hL; intro t hL; refine gor hL ?_))
          refine gnm ?_; rw [decide_eq_false (show ¬ p < 0 by omega)]
          refine gor hL ?_; (repeat (clear hL; intro t hL; refine gor hL ?_))
          refine gnm ?_; rw [decide_eq_false (show ¬ p > (y.size : Int) by omega)]
          refine gor hL ?_; (repeat (clear hL; intro t hL; refine gor hL ?_))
          cases hly : lexM y with
          | ok l =>
            rw [hly] at hCS
            simp only [lexAV] at hCS
            refine po_c0 (hCS) ?_
            refine gor hL ?_; (repeat (clear hL; intro t hL; refine gor hL ?_))
            exact ⟨hL.pk, trivial⟩
          | bad r f =>
            obtain ⟨rfl, rfl⟩ := h5 r f hly
            rw [hly] at hCS
            simp only [lexAV] at hCS
            refine po_c0 (hCS) ?_
            refine gor hL ?_; (repeat (clear hL; intro t hL; refine gor hL ?_))
            exact ⟨hL.pk, trivial⟩
end Go.Pv
