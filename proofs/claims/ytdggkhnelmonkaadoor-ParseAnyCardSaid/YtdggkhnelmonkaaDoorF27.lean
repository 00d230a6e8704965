/- Functions of the program, by value. No condition. -/
import Derived.Test.YtdggkhnelmonkaaDoorF26
import Derived.Test.YtdggkhnelmonkaaDoorD6
import Derived.Test.YtdggkhnelmonkaaDoorF21
namespace Go.Pv
open Go.Proofs
set_option maxRecDepth 100000
set_option maxHeartbeats 8000000
/-- prompter/prompterlaw06.Tokens -/
abbrev c16_4 : PCode :=
 (.region [⟨(.some 26), (.mov (.t 3)), .none⟩,
   ⟨(.some 27), (.faddr 0 (.t 5)), .none⟩,
   ⟨(.some 28), (.load .false 1 (.t 27) .false), .none⟩,
   ⟨(.some 29), (.bsl 1 [(.c (.d (.str (bs [116, 121, 112, 101])))), (.t 28), (.c (.d (.str (bs [61]))))]), .none⟩,
   ⟨(.some 30), (.app 1 16 (.t 26) (.t 29)), .none⟩,
   ⟨(.some 31), (.faddr 1 (.t 5)), .none⟩,
   ⟨(.some 32), (.load .true 4 (.t 31) .false), .none⟩,
   ⟨(.some 33), (.callp 26 [(.t 32)]), .none⟩,
   ⟨(.some 34), (.app 1 16 (.t 30) (.t 33)), .none⟩,
   ⟨(.some 35), (.bsl 1 [(.c (.d (.str (bs [59]))))]), .none⟩,
   ⟨(.some 36), (.app 1 16 (.t 34) (.t 35)), .none⟩,
   ⟨(.some 3), (.mov (.t 36)), .none⟩])
abbrev c16_3 : PCode :=
 (.block 1 (.seq (.region [⟨(.some 24), (.iaddr 5 (.t 20) (.t 22)), .none⟩,
   ⟨(.some 25), (.load .true 5 (.t 24) .false), .none⟩,
   ⟨(.some 5), (.alloc [(.d (.str (bs []))), (.d (.int .u8 0)), (.d (.int .i64 0)), (.full []), (.full [])]), .none⟩,
   ⟨.none, (.store 5 (.t 5) (.t 25)), .none⟩])
 c16_4))
abbrev c16_2 : PCode :=
 (.keep [1, 3, 20, 21, 22] (.block 0 (.loop (.some [22, 3, 1, 20, 21]) (.seq (.region [⟨(.some 23), (.bin .lss (.t 22) (.t 21)), .none⟩])
 (.seq (.cond (.t 23)
  .skip
  (.exit 0))
 (.seq c16_3
 (.region [⟨(.some 37), (.bin .add (.t 22) (.c (.d (.int .i64 1)))), .none⟩,
   ⟨(.some 22), (.mov (.t 37)), .none⟩])))))))
abbrev c16_8 : PCode :=
 (.region [⟨(.some 45), (.mov (.t 3)), .none⟩,
   ⟨(.some 46), (.faddr 0 (.t 7)), .none⟩,
   ⟨(.some 47), (.load .false 1 (.t 46) .false), .none⟩,
   ⟨(.some 48), (.faddr 1 (.t 7)), .none⟩,
   ⟨(.some 49), (.load .false 1 (.t 48) .false), .none⟩,
   ⟨(.some 50), (.callp 32 [(.t 49)]), .none⟩,
   ⟨(.some 51), (.bsl 1 [(.c (.d (.str (bs [101, 114, 114, 111, 114])))), (.t 47), (.c (.d (.str (bs [61])))), (.t 50), (.c (.d (.str (bs [59]))))]), .none⟩,
   ⟨(.some 52), (.app 1 16 (.t 45) (.t 51)), .none⟩,
   ⟨(.some 3), (.mov (.t 52)), .none⟩])
abbrev c16_7 : PCode :=
 (.block 3 (.seq (.region [⟨(.some 43), (.iaddr 2 (.t 39) (.t 41)), .none⟩,
   ⟨(.some 44), (.load .true 2 (.t 43) .false), .none⟩,
   ⟨(.some 7), (.alloc [(.d (.str (bs []))), (.d (.int .i64 0))]), .none⟩,
   ⟨.none, (.store 2 (.t 7) (.t 44)), .none⟩])
 c16_8))
abbrev c16_6 : PCode :=
 (.keep [1, 3, 39, 40, 41] (.block 2 (.loop (.some [41, 3, 1, 39, 40]) (.seq (.region [⟨(.some 42), (.bin .lss (.t 41) (.t 40)), .none⟩])
 (.seq (.cond (.t 42)
  .skip
  (.exit 2))
 (.seq c16_7
 (.region [⟨(.some 53), (.bin .add (.t 41) (.c (.d (.int .i64 1)))), .none⟩,
   ⟨(.some 41), (.mov (.t 53)), .none⟩])))))))
abbrev c16_13 : PCode :=
 (.keep [3, 9, 55, 56, 57] (.region [⟨(.some 75), (.mov (.t 3)), .none⟩,
   ⟨(.some 76), (.faddr 6 (.t 9)), .none⟩,
   ⟨(.some 77), (.load .true 4 (.t 76) .false), .none⟩,
   ⟨(.some 78), (.callp 26 [(.t 77)]), .none⟩,
   ⟨(.some 79), (.app 1 16 (.t 75) (.t 78)), .none⟩,
   ⟨(.some 80), (.bsl 1 [(.c (.d (.str (bs [102, 105, 114, 115, 116])))), (.c (.d (.str (bs [109, 97, 106, 111, 114, 105, 116, 121])))), (.c (.d (.str (bs [97, 108, 108]))))]), .none⟩,
   ⟨(.some 81), (.faddr 10 (.t 9)), .none⟩,
   ⟨(.some 82), (.load .false 1 (.t 81) .false), .none⟩,
   ⟨(.some 83), (.bin .rem (.t 82) (.c (.d (.int .u8 3)))), .none⟩,
   ⟨(.some 84), (.iaddr 1 (.t 80) (.t 83)), .none⟩,
   ⟨(.some 85), (.load .false 1 (.t 84) .false), .none⟩,
   ⟨(.some 86), (.faddr 11 (.t 9)), .none⟩,
   ⟨(.some 87), (.load .false 1 (.t 86) .false), .none⟩,
   ⟨(.some 88), (.callp 32 [(.t 87)]), .none⟩,
   ⟨(.some 89), (.bsl 1 [(.c (.d (.str (bs [99, 111, 108, 108, 97, 116, 101])))), (.t 85), (.c (.d (.str (bs [116, 105, 109, 101, 111, 117, 116])))), (.t 88), (.c (.d (.str (bs [59]))))]), .none⟩,
   ⟨(.some 90), (.app 1 16 (.t 79) (.t 89)), .none⟩,
   ⟨(.some 3), (.mov (.t 90)), .none⟩]))
abbrev c16_12 : PCode :=
 (.keep [3, 9, 55, 56, 57] (.seq (.region [⟨(.some 61), (.mov (.t 3)), .none⟩,
   ⟨(.some 62), (.faddr 0 (.t 9)), .none⟩,
   ⟨(.some 63), (.load .false 1 (.t 62) .false), .none⟩,
   ⟨(.some 64), (.faddr 1 (.t 9)), .none⟩,
   ⟨(.some 65), (.load .false 1 (.t 64) .false), .none⟩,
   ⟨(.some 66), (.callp 32 [(.t 65)]), .none⟩,
   ⟨(.some 67), (.bsl 1 [(.c (.d (.str (bs [112, 114, 111, 99])))), (.t 63), (.c (.d (.str (bs [61])))), (.t 66), (.c (.d (.str (bs [40]))))]), .none⟩,
   ⟨(.some 68), (.app 1 16 (.t 61) (.t 67)), .none⟩,
   ⟨(.some 69), (.faddr 2 (.t 9)), .none⟩,
   ⟨(.some 70), (.load .true 4 (.t 69) .false), .none⟩,
   ⟨(.some 71), (.callp 26 [(.t 70)]), .none⟩,
   ⟨(.some 72), (.app 1 16 (.t 68) (.t 71)), .none⟩,
   ⟨(.some 73), (.bsl 1 [(.c (.d (.str (bs [41])))), (.c (.d (.str (bs [114, 101, 116, 117, 114, 110, 115]))))]), .none⟩,
   ⟨(.some 74), (.app 1 16 (.t 72) (.t 73)), .none⟩,
   ⟨(.some 3), (.mov (.t 74)), .none⟩])
 c16_13))
abbrev c16_11 : PCode :=
 (.block 5 (.seq (.region [⟨(.some 59), (.iaddr 12 (.t 55) (.t 57)), .none⟩,
   ⟨(.some 60), (.load .true 12 (.t 59) .false), .none⟩,
   ⟨(.some 9), (.alloc [(.d (.str (bs []))), (.d (.int .i64 0)), (.d (.int .u8 0)), (.d (.int .i64 0)), (.full []), (.full []), (.d (.int .u8 0)), (.d (.int .i64 0)), (.full []), (.full []), (.d (.int .u8 0)), (.d (.int .i64 0))]), .none⟩,
   ⟨.none, (.store 12 (.t 9) (.t 60)), .none⟩])
 c16_12))
abbrev c16_10 : PCode :=
 (.keep [3, 55, 56, 57] (.block 4 (.loop (.some [57, 3, 55, 56]) (.seq (.region [⟨(.some 58), (.bin .lss (.t 57) (.t 56)), .none⟩])
 (.seq (.cond (.t 58)
  .skip
  (.exit 4))
 (.seq c16_11
 (.region [⟨(.some 91), (.bin .add (.t 57) (.c (.d (.int .i64 1)))), .none⟩,
   ⟨(.some 57), (.mov (.t 91)), .none⟩])))))))
abbrev c16_14 : PCode :=
 (.seq (.region [⟨(.some 92), (.mov (.t 3)), .none⟩,
   ⟨(.some 93), (.bsl 1 [(.c (.d (.str (bs [125]))))]), .none⟩,
   ⟨(.some 94), (.app 1 16 (.t 92) (.t 93)), .none⟩,
   ⟨(.some 2), (.mov (.t 94)), .none⟩])
 .ret)
abbrev c16_9 : PCode :=
 (.seq (.seq (.region [⟨(.some 54), (.faddr 5 (.t 1)), .none⟩,
   ⟨(.some 55), (.load .false 1 (.t 54) .false), .none⟩,
   ⟨(.some 56), (.len (.t 55)), .none⟩,
   ⟨(.some 57), (.mov (.c (.d (.int .i64 0)))), .none⟩])
 c16_10)
 c16_14)
abbrev c16_5 : PCode :=
 (.seq (.seq (.region [⟨(.some 38), (.faddr 4 (.t 1)), .none⟩,
   ⟨(.some 39), (.load .false 1 (.t 38) .false), .none⟩,
   ⟨(.some 40), (.len (.t 39)), .none⟩,
   ⟨(.some 41), (.mov (.c (.d (.int .i64 0)))), .none⟩])
 c16_6)
 c16_9)
abbrev c16_1 : PCode :=
 (.keep [1, 3] (.seq (.seq (.region [⟨(.some 19), (.faddr 3 (.t 1)), .none⟩,
   ⟨(.some 20), (.load .false 1 (.t 19) .false), .none⟩,
   ⟨(.some 21), (.len (.t 20)), .none⟩,
   ⟨(.some 22), (.mov (.c (.d (.int .i64 0)))), .none⟩])
 c16_2)
 c16_5))
abbrev c16_0 : PCode :=
 (.seq (.region [⟨(.some 10), (.faddr 0 (.t 1)), .none⟩,
   ⟨(.some 11), (.load .false 1 (.t 10) .false), .none⟩,
   ⟨(.some 12), (.faddr 1 (.t 1)), .none⟩,
   ⟨(.some 13), (.load .false 1 (.t 12) .false), .none⟩,
   ⟨(.some 14), (.callp 32 [(.t 13)]), .none⟩,
   ⟨(.some 15), (.faddr 2 (.t 1)), .none⟩,
   ⟨(.some 16), (.load .false 1 (.t 15) .false), .none⟩,
   ⟨(.some 17), (.callp 32 [(.t 16)]), .none⟩,
   ⟨(.some 18), (.bsl 1 [(.c (.d (.str (bs [112, 114, 111, 103, 114, 97, 109])))), (.t 11), (.t 14), (.c (.d (.str (bs [118, 101, 114, 115, 105, 111, 110])))), (.t 17), (.c (.d (.str (bs [123]))))]), .none⟩,
   ⟨(.some 3), (.mov (.t 18)), .none⟩])
 c16_1)
def c16 : PFun := ⟨
 (.seq (.region [⟨(.some 1), (.box 6 (.t 0)), .none⟩,
   ⟨(.some 2), (.mov (.c (.full []))), .none⟩])
 c16_0),
 1, 95, [(.tmp 2)]⟩

/-- prompter/prompterlaw06.Text -/
abbrev c17_7 : PCode :=
 (.region [⟨(.some 19), (.mov (.t 1)), .none⟩,
   ⟨(.some 20), (.mov (.t 6)), .none⟩,
   ⟨(.some 21), (.mov (.t 1)), .none⟩,
   ⟨(.some 22), (.len (.t 21)), .none⟩,
   ⟨(.some 23), (.bin .rem (.t 20) (.t 22)), .none⟩,
   ⟨(.some 24), (.iaddr 1 (.t 19) (.t 23)), .none⟩,
   ⟨(.some 25), (.load .false 1 (.t 24) .false), .none⟩,
   ⟨(.some 8), (.mov (.t 25)), .none⟩])
abbrev c17_6 : PCode :=
 (.cond (.t 18)
  c17_7
  .skip)
abbrev c17_8 : PCode :=
 (.region [⟨(.some 26), (.mov (.t 5)), .none⟩,
   ⟨(.some 27), (.bsl 1 [(.c (.d (.str (bs [32])))), (.c (.d (.str (bs [10])))), (.c (.d (.str (bs [9, 32])))), (.c (.d (.str (bs [35, 32, 110, 111, 59, 32, 112, 114, 111, 103, 114, 97, 109, 32, 123, 10])))), (.c (.d (.str (bs [32, 32]))))]), .none⟩,
   ⟨(.some 28), (.mov (.t 8)), .none⟩,
   ⟨(.some 29), (.bin .rem (.t 28) (.c (.d (.int .u8 5)))), .none⟩,
   ⟨(.some 30), (.iaddr 1 (.t 27) (.t 29)), .none⟩,
   ⟨(.some 31), (.load .false 1 (.t 30) .false), .none⟩,
   ⟨(.some 32), (.mov (.t 7)), .none⟩,
   ⟨(.some 33), (.bin .add (.t 31) (.t 32)), .none⟩,
   ⟨(.some 34), (.bin .add (.t 26) (.t 33)), .none⟩,
   ⟨(.some 5), (.mov (.t 34)), .none⟩])
abbrev c17_5 : PCode :=
 (.seq (.seq (.region [⟨(.some 16), (.mov (.t 1)), .none⟩,
   ⟨(.some 17), (.len (.t 16)), .none⟩,
   ⟨(.some 18), (.bin .gtr (.t 17) (.c (.d (.int .i64 0)))), .none⟩])
 c17_6)
 c17_8)
abbrev c17_4 : PCode :=
 (.keep [1, 5, 6, 7, 9, 10, 11] (.seq (.region [⟨(.some 8), (.mov (.c (.d (.int .u8 0)))), .none⟩])
 c17_5))
abbrev c17_3 : PCode :=
 (.block 1 (.seq (.region [⟨(.some 13), (.mov (.t 11)), .none⟩,
   ⟨(.some 14), (.iaddr 1 (.t 9) (.t 11)), .none⟩,
   ⟨(.some 15), (.load .false 1 (.t 14) .false), .none⟩,
   ⟨(.some 6), (.mov (.t 13)), .none⟩,
   ⟨(.some 7), (.mov (.t 15)), .none⟩])
 c17_4))
abbrev c17_2 : PCode :=
 (.keep [1, 5, 9, 10, 11] (.block 0 (.loop (.some [11, 5, 1, 9, 10]) (.seq (.region [⟨(.some 12), (.bin .lss (.t 11) (.t 10)), .none⟩])
 (.seq (.cond (.t 12)
  .skip
  (.exit 0))
 (.seq c17_3
 (.region [⟨(.some 35), (.bin .add (.t 11) (.c (.d (.int .i64 1)))), .none⟩,
   ⟨(.some 11), (.mov (.t 35)), .none⟩])))))))
abbrev c17_9 : PCode :=
 (.seq (.region [⟨(.some 36), (.mov (.t 5)), .none⟩,
   ⟨(.some 4), (.mov (.t 36)), .none⟩])
 .ret)
abbrev c17_1 : PCode :=
 (.seq (.seq (.region [⟨(.some 9), (.mov (.t 0)), .none⟩,
   ⟨(.some 10), (.len (.t 9)), .none⟩,
   ⟨(.some 11), (.mov (.c (.d (.int .i64 0)))), .none⟩])
 c17_2)
 c17_9)
abbrev c17_0 : PCode :=
 (.seq (.region [⟨(.some 5), (.mov (.c (.d (.str (bs []))))), .none⟩])
 c17_1)
def c17 : PFun := ⟨
 (.seq (.region [⟨(.some 4), (.mov (.c (.d (.str (bs []))))), .none⟩])
 c17_0),
 2, 37, [(.tmp 4)]⟩

theorem e16 : entered Tryd.prog 16 = true := by kernel_rfl
theorem k16 : compFun Tryd.prog (fun _ => 1) 16 = some c16.er := by kernel_rfl
theorem e17 : entered Tryd.prog 17 = true := by kernel_rfl
theorem k17 : compFun Tryd.prog (fun _ => 0) 17 = some c17.er := by kernel_rfl

theorem TX_app (a b : List Tk) : TX (a ++ b) = TX a ++ TX b := List.map_append
theorem flat_snoc {α : Type} (f : α → List Tk) {l : List α} {k : Nat} {y : α} (h : l[k]? = some y) : TX ((l.take (k + 1)).flatMap f) = TX ((l.take k).flatMap f) ++ TX (f y) := by
  rw [take_snoc h, List.flatMap_append, TX_app]; simp
theorem flat_take {α : Type} (f : α → List Tk) (l : List α) (k : Nat) : (TX ((l.take k).flatMap f)).length ≤ (l.flatMap f).length := by
  conv => rhs; rw [← List.take_append_drop k l]
  rw [List.flatMap_append, List.length_append, List.length_map]; omega
theorem C16 {T : TB} (hp : PTB T) (hl : T.toks.length < 2 ^ 40) : Pure (PCalls Tryd.prog GK) 16 [T.av] (.d (strs (TX T.toks))) := by
  obtain ⟨name, num, ver, ts, fs, ps⟩ := T
  obtain ⟨h1, h2, h3, h4, h5, h6⟩ := hp
  simp only at h1 h2 h3 h4 h5 h6
  obtain ⟨nn, rfl⟩ := Int.eq_ofNat_of_zero_le h2.1
  obtain ⟨vn, rfl⟩ := Int.eq_ofNat_of_zero_le h3.1
  have b2' := h2.2
  have b3 := h3.2
  have e0 : TX (TB.toks ⟨name, nn, vn, ts, fs, ps⟩) = [kProgram, name, numTx nn, kVersion, numTx vn, sOpen] ++ TX (ts.flatMap alTk) ++ TX (fs.flatMap flTk) ++ TX (ps.flatMap pcTk) ++ [sClose] := by
    simp [TB.toks, numX]
  have e1 : (TB.toks ⟨name, nn, vn, ts, fs, ps⟩).length = 6 + (ts.flatMap alTk).length + (fs.flatMap flTk).length + (ps.flatMap pcTk).length + 1 := by
    simp [TB.toks]; omega
  rw [e0]
  rw [e1] at hl
  have n1 := flatTk_len alTk (fun a => by simp [alTk]) ts
  have n2 := flatTk_len flTk (fun a => by simp [flTk]) fs
  have n3 := flatTk_len pcTk pcTk_ne ps
  have f1 := flat_take alTk ts
  have f2 := flat_take flTk fs
  have f3 := flat_take pcTk ps
  have l1 : (TX (ts.flatMap alTk)).length = (ts.flatMap alTk).length := List.length_map _
  have l2 : (TX (fs.flatMap flTk)).length = (fs.flatMap flTk).length := List.length_map _
  have l3 : (TX (ps.flatMap pcTk)).length = (ps.flatMap pcTk).length := List.length_map _
  intro st; refine pcalls_of k16 e16 (of_decide_eq_true rfl) ?_; dsimp only [c16]; refine pstartL ?_; intro t hL; generalize hQ : pfin _ _ = Q
  (refine gor hL ?_; (repeat (clear hL; intro t hL; refine gor hL ?_))); refine po_boxA hL ?_; clear hL; intro p1 t hL
  refine gor hL ?_; (repeat (clear hL; intro t hL; refine gor hL ?_))
  refine po_cp (C32 nn (by omega)) ?_
  refine gor hL ?_; (repeat (clear hL; intro t hL; refine gor hL ?_))
  refine po_cp (C32 vn (by omega)) ?_
  refine gor hL ?_; (repeat (clear hL; intro t hL; refine gor hL ?_)); (repeat (refine pseqk ?_; refine gor hL ?_; (repeat (clear hL; intro t hL; refine gor hL ?_))))
  replace hL := hL.full (srows [kProgram, name, numTx nn, kVersion, numTx vn, sOpen]) 1
  (apply prangeA (ts.length) (by omega) (fun (v : AV) z => put z (some 3) v) (fun k v t => ∃ R : List ByteArray, R = [kProgram, name, numTx nn, kVersion, numTx vn, sOpen] ++ TX ((ts.take k).flatMap alTk) ∧ Lay st [.box p1 [.d (.str name), .d (.int .i64 nn), .d (.int .i64 vn), .d (.sl (ts.map Al.row)), .d (.sl (fs.map Fl.row)), .d (.sl (ps.map Pc.row))], .vec v (srows R) 1] t) ((.full (srows [kProgram, name, numTx nn, kVersion, numTx vn, sOpen])))); (· exact trimA); (· exact fun _ _ => rfl)
  · exact ⟨_, rfl, hL.pk⟩
  rotate_left
  · rintro k hk v t ⟨R, hR, hL⟩
    have hRl := congrArg List.length hR
    simp only [List.length_append, List.length_cons, List.length_nil] at hRl
    obtain ⟨a, ha, ham⟩ := elem_at hk
    have fv := hL.vk v
    obtain ⟨fv_r, fv_w, fv_w1, fv_c, fv_s, fv_d⟩ := id fv
    have hs := flat_snoc alTk ha
    have hb := f1 (k + 1)
    rw [hs] at hb ⊢
    rw [List.length_append] at hb
    obtain ⟨hn, ht⟩ := h4 a ham
    have hal : (TX (alTk a)).length = 4 + a.ty.toks.length := by simp [alTk]; omega
    have hC := C26 ht (by omega)
    have htl : (TX a.ty.toks).length = a.ty.toks.length := List.length_map _
    have hax : TX (alTk a) = [kType, a.name, sEq] ++ TX a.ty.toks ++ [sSemi] := by simp [alTk]
    rw [hax]
    generalize TX ((ts.take k).flatMap alTk) = X at *
    rw [KT.av_eq] at hC
    generalize TX a.ty.toks = Z at *
    refine pblock ?_
    refine gor hL ?_; (repeat (clear hL; intro t hL; refine gor hL ?_))
    (refine gor hL ?_; (repeat (clear hL; intro t hL; refine gor hL ?_))); (with_reducible refine po_allocL hL rfl ?_); clear hL; intro p5 t hL
    refine gor hL ?_; (repeat (clear hL; intro t hL; refine gor hL ?_))
    refine po_appA hL (hn := srows_one (l := [kType, a.name, sEq])) srows_one ?_ ?_; (· (rw [len_srows, len_srows]; simp; omega)); clear hL; intro w1 t fw1 hL; obtain ⟨fw1_r, fw1_w, fw1_w1, fw1_c, fw1_s, fw1_d⟩ := id fw1
    rw [srows_app] at hL fw1 fw1_w
    refine gor hL ?_; (repeat (clear hL; intro t hL; refine gor hL ?_))
    refine po_cp (hC) ?_
    refine gor hL ?_; (repeat (clear hL; intro t hL; refine gor hL ?_))
    refine po_appA hL (hn := srows_one (l := Z)) srows_one ?_ ?_; (· (rw [len_srows, len_srows]; simp; omega)); clear hL; intro w2 t fw2 hL; obtain ⟨fw2_r, fw2_w, fw2_w1, fw2_c, fw2_s, fw2_d⟩ := id fw2
    rw [srows_app] at hL fw2 fw2_w
    refine gor hL ?_; (repeat (clear hL; intro t hL; refine gor hL ?_))
    refine po_appA hL (hn := srows_one (l := [sSemi])) srows_one ?_ ?_; (· (rw [len_srows, len_srows]; simp; omega)); clear hL; intro w3 t fw3 hL; obtain ⟨fw3_r, fw3_w, fw3_w1, fw3_c, fw3_s, fw3_d⟩ := id fw3
    rw [srows_app] at hL fw3 fw3_w
    refine gor hL ?_; (repeat (clear hL; intro t hL; refine gor hL ?_))
    exact ⟨w3, ⟨R ++ [kType, a.name, sEq] ++ Z ++ [sSemi], by rw [hR]; simp, hL.pk⟩, ⟨trivial, (by simp +decide only [pvc, pvi, pvt])⟩⟩
  rintro v t ⟨R, hR, hL⟩
  rw [List.take_of_length_le (Nat.le_refl _)] at hR
  have fv := hL.vk v
  obtain ⟨fv_r, fv_w, fv_w1, fv_c, fv_s, fv_d⟩ := id fv
  refine gor hL ?_; (repeat (clear hL; intro t hL; refine gor hL ?_)); (repeat (refine pseqk ?_; refine gor hL ?_; (repeat (clear hL; intro t hL; refine gor hL ?_))))
  (apply prangeA (fs.length) (by omega) (fun (v : AV) z => put z (some 3) v) (fun k v t => ∃ R : List ByteArray, R = ([kProgram, name, numTx nn, kVersion, numTx vn, sOpen] ++ TX (ts.flatMap alTk)) ++ TX ((fs.take k).flatMap flTk) ∧ Lay st [.box p1 [.d (.str name), .d (.int .i64 nn), .d (.int .i64 vn), .d (.sl (ts.map Al.row)), .d (.sl (fs.map Fl.row)), .d (.sl (ps.map Pc.row))], .vec v (srows R) 1] t) (v)); (· exact trimA); (· exact fun _ _ => rfl)
  · exact ⟨R, by rw [hR]; simp, hL.pk⟩
  rotate_left
  · rintro k hk v t ⟨R, hR, hL⟩
    have hRl := congrArg List.length hR
    simp only [List.length_append, List.length_cons, List.length_nil] at hRl
    obtain ⟨a, ha, ham⟩ := elem_at hk
    have fv := hL.vk v
    obtain ⟨fv_r, fv_w, fv_w1, fv_c, fv_s, fv_d⟩ := id fv
    have hs := flat_snoc flTk ha
    have hb := f2 (k + 1)
    rw [hs] at hb ⊢
    rw [List.length_append] at hb
    obtain ⟨hn, ho⟩ := h5 a ham
    obtain ⟨an, han⟩ := Int.eq_ofNat_of_zero_le ho.1
    have ho2 := ho.2
    have hal : (TX (flTk a)).length = 5 := rfl
    have hax : TX (flTk a) = [kError, a.name, sEq, numTx an, sSemi] := by simp [flTk, numX, han]
    rw [hax]
    obtain ⟨anm, anum⟩ := a
    simp only at han ho2 hax
    subst han
    generalize TX ((fs.take k).flatMap flTk) = X at *
    generalize TX (ts.flatMap alTk) = Y at *
    refine pblock ?_
    refine gor hL ?_; (repeat (clear hL; intro t hL; refine gor hL ?_))
    (refine gor hL ?_; (repeat (clear hL; intro t hL; refine gor hL ?_))); (with_reducible refine po_allocL hL rfl ?_); clear hL; intro p5 t hL
    refine gor hL ?_; (repeat (clear hL; intro t hL; refine gor hL ?_))
    refine po_cp (C32 an (by omega)) ?_
    refine gor hL ?_; (repeat (clear hL; intro t hL; refine gor hL ?_))
    refine po_appA hL (hn := srows_one (l := [kError, anm, sEq, numTx an, sSemi])) srows_one ?_ ?_; (· (rw [len_srows, len_srows]; simp; omega)); clear hL; intro w1 t fw1 hL; obtain ⟨fw1_r, fw1_w, fw1_w1, fw1_c, fw1_s, fw1_d⟩ := id fw1
    rw [srows_app] at hL fw1 fw1_w
    refine gor hL ?_; (repeat (clear hL; intro t hL; refine gor hL ?_))
    exact ⟨w1, ⟨R ++ [kError, anm, sEq, numTx an, sSemi], by rw [hR]; simp, hL.pk⟩, ⟨trivial, (by simp +decide only [pvc, pvi, pvt])⟩⟩
  rintro v t ⟨R, hR, hL⟩
  rw [List.take_of_length_le (Nat.le_refl _)] at hR
  have fv := hL.vk v
  obtain ⟨fv_r, fv_w, fv_w1, fv_c, fv_s, fv_d⟩ := id fv
  refine gor hL ?_; (repeat (clear hL; intro t hL; refine gor hL ?_)); (repeat (refine pseqk ?_; refine gor hL ?_; (repeat (clear hL; intro t hL; refine gor hL ?_))))
  (apply prangeA (ps.length) (by omega) (fun (v : AV) z => put z (some 3) v) (fun k v t => ∃ R : List ByteArray, R = ([kProgram, name, numTx nn, kVersion, numTx vn, sOpen] ++ TX (ts.flatMap alTk) ++ TX (fs.flatMap flTk)) ++ TX ((ps.take k).flatMap pcTk) ∧ Lay st [.box p1 [.d (.str name), .d (.int .i64 nn), .d (.int .i64 vn), .d (.sl (ts.map Al.row)), .d (.sl (fs.map Fl.row)), .d (.sl (ps.map Pc.row))], .vec v (srows R) 1] t) (v)); (· exact trimA); (· exact fun _ _ => rfl)
  · exact ⟨R, by rw [hR]; simp, hL.pk⟩
  rotate_left
  · rintro k hk v t ⟨R, hR, hL⟩
    have hRl := congrArg List.length hR
    simp only [List.length_append, List.length_cons, List.length_nil] at hRl
    obtain ⟨a, ha, ham⟩ := elem_at hk
    have fv := hL.vk v
    obtain ⟨fv_r, fv_w, fv_w1, fv_c, fv_s, fv_d⟩ := id fv
    have hs := flat_snoc pcTk ha
    have hb := f3 (k + 1)
    rw [hs] at hb ⊢
    rw [List.length_append] at hb
    obtain ⟨hn, hnum, ht, ha', hc, htm⟩ := h6 a ham
    obtain ⟨an, han⟩ := Int.eq_ofNat_of_zero_le hnum.1
    obtain ⟨tn, htn⟩ := Int.eq_ofNat_of_zero_le htm.1
    have hn2 := hnum.2
    have ht2 := htm.2
    have hal : (TX (pcTk a)).length = 12 + a.takes.toks.length + a.answers.toks.length := by simp [pcTk]; omega
    have hC1 := C26 ht (by omega)
    have hC2 := C26 ha' (by omega)
    have htl1 : (TX a.takes.toks).length = a.takes.toks.length := List.length_map _
    have htl2 : (TX a.answers.toks).length = a.answers.toks.length := List.length_map _
    have hax : TX (pcTk a) = [kProc, a.name, sEq, numTx an, sParL] ++ TX a.takes.toks ++ [sParR, kReturns] ++ TX a.answers.toks ++ [kCollate, colX a.collate, kTimeout, numTx tn, sSemi] := by simp [pcTk, numX, han, htn]
    rw [hax]
    obtain ⟨anm, anum, atk, aan, acol, atmo⟩ := a
    simp only at han htn hn2 ht2 hc
    subst han htn
    generalize TX ((ps.take k).flatMap pcTk) = X at *
    generalize TX (ts.flatMap alTk) = Y at *
    generalize TX (fs.flatMap flTk) = V at *
    rw [KT.av_eq] at hC1 hC2
    simp only at hC1 hC2 htl1 htl2 hal ⊢
    generalize TX atk.toks = Z at *
    generalize TX aan.toks = U at *
    have hcm : acol.tmod 3 = acol := by rw [Int.tmod_eq_emod_of_nonneg hc.1]; omega
    refine pblock ?_
    refine gor hL ?_; (repeat (clear hL; intro t hL; refine gor hL ?_))
    (refine gor hL ?_; (repeat (clear hL; intro t hL; refine gor hL ?_))); (with_reducible refine po_allocL hL rfl ?_); clear hL; intro p5 t hL
    refine gor hL ?_; (repeat (clear hL; intro t hL; refine gor hL ?_))
    refine po_cp (C32 an (by omega)) ?_
    refine gor hL ?_; (repeat (clear hL; intro t hL; refine gor hL ?_))
    refine po_appA hL (hn := srows_one (l := [kProc, anm, sEq, numTx an, sParL])) srows_one ?_ ?_; (· (rw [len_srows, len_srows]; simp; omega)); clear hL; intro w1 t fw1 hL; obtain ⟨fw1_r, fw1_w, fw1_w1, fw1_c, fw1_s, fw1_d⟩ := id fw1
    rw [srows_app] at hL fw1 fw1_w
    refine gor hL ?_; (repeat (clear hL; intro t hL; refine gor hL ?_))
    refine po_cp (hC1) ?_
    refine gor hL ?_; (repeat (clear hL; intro t hL; refine gor hL ?_))
    refine po_appA hL (hn := srows_one (l := Z)) srows_one ?_ ?_; (· (rw [len_srows, len_srows]; simp; omega)); clear hL; intro w2 t fw2 hL; obtain ⟨fw2_r, fw2_w, fw2_w1, fw2_c, fw2_s, fw2_d⟩ := id fw2
    rw [srows_app] at hL fw2 fw2_w
    refine gor hL ?_; (repeat (clear hL; intro t hL; refine gor hL ?_))
    refine po_appA hL (hn := srows_one (l := [sParR, kReturns])) srows_one ?_ ?_; (· (rw [len_srows, len_srows]; simp; omega)); clear hL; intro w3 t fw3 hL; obtain ⟨fw3_r, fw3_w, fw3_w1, fw3_c, fw3_s, fw3_d⟩ := id fw3
    rw [srows_app] at hL fw3 fw3_w
    refine gor hL ?_; (repeat (clear hL; intro t hL; refine gor hL ?_))
    refine po_cp (hC2) ?_
    refine gor hL ?_; (repeat (clear hL; intro t hL; refine gor hL ?_))
    refine po_appA hL (hn := srows_one (l := U)) srows_one ?_ ?_; (· (rw [len_srows, len_srows]; simp; omega)); clear hL; intro w4 t fw4 hL; obtain ⟨fw4_r, fw4_w, fw4_w1, fw4_c, fw4_s, fw4_d⟩ := id fw4
    rw [srows_app] at hL fw4 fw4_w
    refine gor hL ?_; (repeat (clear hL; intro t hL; refine gor hL ?_))
    refine gnm ?_; rw [hcm]
    have hc3 : acol = 0 ∨ acol = 1 ∨ acol = 2 := by omega
    rcases hc3 with rfl | rfl | rfl
    · have ec : colX 0 = kFirst := rfl
      rw [ec] at *
      refine gor hL ?_; (repeat (clear hL; intro t hL; refine gor hL ?_))
      refine po_cp (C32 tn (by omega)) ?_
      refine gor hL ?_; (repeat (clear hL; intro t hL; refine gor hL ?_))
      refine po_appA hL (hn := srows_one (l := [kCollate, kFirst, kTimeout, numTx tn, sSemi])) srows_one ?_ ?_; (· (rw [len_srows, len_srows]; simp; omega)); clear hL; intro w5 t fw5 hL; obtain ⟨fw5_r, fw5_w, fw5_w1, fw5_c, fw5_s, fw5_d⟩ := id fw5
      rw [srows_app] at hL fw5 fw5_w
      refine gor hL ?_; (repeat (clear hL; intro t hL; refine gor hL ?_))
      exact ⟨w5, ⟨R ++ [kProc, anm, sEq, numTx an, sParL] ++ Z ++ [sParR, kReturns] ++ U ++ [kCollate, kFirst, kTimeout, numTx tn, sSemi], by rw [hR]; simp, hL.pk⟩, ⟨trivial, rfl⟩⟩
    · have ec : colX 1 = kMajority := rfl
      rw [ec] at *
      refine gor hL ?_; (repeat (clear hL; intro t hL; refine gor hL ?_))
      refine po_cp (C32 tn (by omega)) ?_
      refine gor hL ?_; (repeat (clear hL; intro t hL; refine gor hL ?_))
      refine po_appA hL (hn := srows_one (l := [kCollate, kMajority, kTimeout, numTx tn, sSemi])) srows_one ?_ ?_; (· (rw [len_srows, len_srows]; simp; omega)); clear hL; intro w5 t fw5 hL; obtain ⟨fw5_r, fw5_w, fw5_w1, fw5_c, fw5_s, fw5_d⟩ := id fw5
      rw [srows_app] at hL fw5 fw5_w
      refine gor hL ?_; (repeat (clear hL; intro t hL; refine gor hL ?_))
      exact ⟨w5, ⟨R ++ [kProc, anm, sEq, numTx an, sParL] ++ Z ++ [sParR, kReturns] ++ U ++ [kCollate, kMajority, kTimeout, numTx tn, sSemi], by rw [hR]; simp, hL.pk⟩, ⟨trivial, rfl⟩⟩
    · have ec : colX 2 = kAll := rfl
      rw [ec] at *
      refine gor hL ?_; (repeat (clear hL; intro t hL; refine gor hL ?_))
      refine po_cp (C32 tn (by omega)) ?_
      refine gor hL ?_; (repeat (clear hL; intro t hL; refine gor hL ?_))
      refine po_appA hL (hn := srows_one (l := [kCollate, kAll, kTimeout, numTx tn, sSemi])) srows_one ?_ ?_; (· (rw [len_srows, len_srows]; simp; omega)); clear hL; intro w5 t fw5 hL; obtain ⟨fw5_r, fw5_w, fw5_w1, fw5_c, fw5_s, fw5_d⟩ := id fw5
      rw [srows_app] at hL fw5 fw5_w
      refine gor hL ?_; (repeat (clear hL; intro t hL; refine gor hL ?_))
      exact ⟨w5, ⟨R ++ [kProc, anm, sEq, numTx an, sParL] ++ Z ++ [sParR, kReturns] ++ U ++ [kCollate, kAll, kTimeout, numTx tn, sSemi], by rw [hR]; simp, hL.pk⟩, ⟨trivial, rfl⟩⟩
  rintro v t ⟨R, hR, hL⟩
  rw [List.take_of_length_le (Nat.le_refl _)] at hR
  have fv := hL.vk v
  obtain ⟨fv_r, fv_w, fv_w1, fv_c, fv_s, fv_d⟩ := id fv
  refine gor hL ?_; (repeat (clear hL; intro t hL; refine gor hL ?_)); (repeat (refine pseqk ?_; refine gor hL ?_; (repeat (clear hL; intro t hL; refine gor hL ?_))))
  have hRl := congrArg List.length hR
  simp only [List.length_append, List.length_cons, List.length_nil] at hRl
  refine po_appA hL (hn := srows_one (l := [sClose])) srows_one ?_ ?_; (· (rw [len_srows, len_srows]; simp; omega)); clear hL; intro w1 t fw1 hL; obtain ⟨fw1_r, fw1_w, fw1_w1, fw1_c, fw1_s, fw1_d⟩ := id fw1
  rw [srows_app] at hL fw1 fw1_w
  refine gor hL ?_; (repeat (clear hL; intro t hL; refine gor hL ?_))
  rw [← hQ]
  exact pfin_weak (u := w1) rfl (fw1_w.trans (by rw [hR]; rfl)) hL.le
end Go.Pv
namespace Go.Pv
open Go.Proofs
set_option maxRecDepth 100000
set_option maxHeartbeats 8000000
theorem ev_rem {G : Glob} {s : Slots} {a b : Arg} {x y : Int} (ha : a.ev G s = .d (.int .i64 x)) (hb : b.ev G s = .d (.int .i64 y)) (h : y ≠ 0) : ev G s (.bin .rem a b) = some (.d (.int .i64 (x.tmod y))) := by
  simp only [ev, ha, hb, binEv]
  rw [if_neg (by simp), if_pos trivial]
  simp [intBin, h]
theorem C17 (l : List ByteArray) (gaps : List Int) (hg : ∀ x ∈ gaps, 0 ≤ x ∧ x ≤ 255) (hgl : gaps.length < 2 ^ 62) (hl : l.length < 2 ^ 62) (hs : (texM l gaps l.length).size < 2 ^ 62) :
    Pure (PCalls Tryd.prog GK) 17 [.d (strs l), .d (.sl (gaps.map fun n => [.int .u8 n]))] (.d (.str (texM l gaps l.length))) := by
  intro st; refine pcalls_of k17 e17 (of_decide_eq_true rfl) ?_; dsimp only [c17]; refine pstartL ?_; intro t hL; generalize hQ : pfin _ _ = Q
  refine gor hL ?_; (repeat (clear hL; intro t hL; refine gor hL ?_))
  (apply prangeA (l.length) (by omega) (fun (s : ByteArray) z => put z (some 5) (.d (.str s))) (fun k s t => s = texM l gaps k ∧ Lay st [] t) ((bs []))); (· exact trimA); (· exact fun _ _ => rfl)
  · exact ⟨rfl, hL⟩
  · rintro s t ⟨rfl, hL⟩
    refine gor hL ?_; (repeat (clear hL; intro t hL; refine gor hL ?_))
    rw [← hQ]
    exact pfin_pure rfl hL.le
  rintro k hk s t ⟨rfl, hL⟩
  obtain ⟨x, hx, hxm⟩ := elem_at hk
  have hsz := texM_size l gaps (l.length - (k + 1)) (k + 1)
  rw [show k + 1 + (l.length - (k + 1)) = l.length by omega, texM] at hsz
  rw [texM]
  have hxg : l.getD k (bs []) = x := by rw [List.getD_eq_getElem?_getD, hx]; rfl
  rw [hxg] at hsz ⊢
  simp only [ByteArray.size_append] at hsz
  generalize texM l gaps k = S at *
  refine pblock ?_
  refine gor hL ?_; (repeat (clear hL; intro t hL; refine gor hL ?_))
  have hy : 0 ≤ gapAt gaps k ∧ gapAt gaps k ≤ 255 := by
    unfold gapAt
    split
    · rename_i h0
      rw [List.getD_eq_getElem?_getD, List.getElem?_eq_getElem (Nat.mod_lt _ h0)]
      exact hg _ (List.getElem_mem _)
    · omega
  by_cases h0 : 0 < gaps.length
  · obtain ⟨y, hyx, hym⟩ := elem_at (Nat.mod_lt k h0)
    have ey : gapAt gaps k = y := by rw [gapAt, if_pos h0, List.getD_eq_getElem?_getD, hyx]; rfl
    rw [ey] at hsz hy ⊢
    have em : (k : Int).tmod (gaps.length : Int) = ((k % gaps.length : Nat) : Int) := by rw [Int.tmod_eq_emod_of_nonneg (by omega)]; omega
    refine gnm ?_; rw [decide_eq_true (show (gaps.length : Int) > 0 by omega)]
    refine gor hL ?_; (repeat (clear hL; intro t hL; refine gor hL ?_))
    refine po rfl (ev_rem (x := k) (y := gaps.length) rfl rfl (by omega)) ?_
    refine gnm ?_; rw [em]
    refine gor hL ?_; (repeat (clear hL; intro t hL; refine gor hL ?_))
    have h5 : y % 5 = 0 ∨ y % 5 = 1 ∨ y % 5 = 2 ∨ y % 5 = 3 ∨ y % 5 = 4 := by omega
    have hr : (y).tmod 5 = y % 5 := Int.tmod_eq_emod_of_nonneg hy.1
    rcases h5 with h5 | h5 | h5 | h5 | h5
    all_goals
      rw [h5] at hsz hr ⊢
      simp only [gapTx, if_true, if_false, Int.reduceEq] at hsz ⊢
      refine gor hL ?_; (repeat (clear hL; intro t hL; refine gor hL ?_))
      refine gnm ?_; rw [hr]
      refine gor hL ?_; (repeat (clear hL; intro t hL; refine gor hL ?_))
      refine po rfl (str_add rfl rfl (by omega)) ?_
      refine gor hL ?_; (repeat (clear hL; intro t hL; refine gor hL ?_))
      refine po rfl (str_add rfl rfl (by rw [ByteArray.size_append]; omega)) ?_
      refine gor hL ?_; (repeat (clear hL; intro t hL; refine gor hL ?_))
      exact ⟨_, ⟨rfl, hL⟩, ⟨trivial, rfl⟩⟩
  · have ey : gapAt gaps k = 0 := if_neg h0
    rw [ey] at hsz hy ⊢
    refine gnm ?_; rw [decide_eq_false (show ¬ (gaps.length : Int) > 0 by omega)]
    refine gor hL ?_; (repeat (clear hL; intro t hL; refine gor hL ?_))
    have hsz : S.size + ((bs [32]).size + x.size) ≤ (texM l gaps l.length).size := hsz
    refine po rfl (str_add rfl rfl (by show (bs [32]).size + x.size ≤ _; omega)) ?_
    refine gor hL ?_; (repeat (clear hL; intro t hL; refine gor hL ?_))
    refine po rfl (str_add rfl rfl (by rw [ByteArray.size_append]; show S.size + ((bs [32]).size + x.size) ≤ _; omega)) ?_
    refine gor hL ?_; (repeat (clear hL; intro t hL; refine gor hL ?_))
    exact ⟨_, ⟨rfl, hL⟩, ⟨trivial, rfl⟩⟩
end Go.Pv
