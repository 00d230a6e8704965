/- Functions of the program, by value. No condition. -/
import Derived.Test.YtdggkhnelmonkaaDoorF18
import Derived.Test.YtdggkhnelmonkaaDoorF21
import Derived.Test.YtdggkhnelmonkaaDoorP32
namespace Go.Pv
open Go.Proofs
set_option maxRecDepth 100000
set_option maxHeartbeats 8000000
/-- prompter/prompterlaw06.number -/
abbrev c32_2 : PCode :=
 (.seq (.region [⟨(.some 5), (.mov (.t 0)), .none⟩,
   ⟨(.some 6), (.bin .add (.c (.d (.int .i64 48))) (.t 5)), .none⟩,
   ⟨(.some 7), (.cvt .u8 (.t 6)), .none⟩,
   ⟨(.some 8), (.bsl 1 [(.t 7)]), .none⟩,
   ⟨(.some 9), (.strOf (.t 8)), .none⟩,
   ⟨(.some 2), (.mov (.t 9)), .none⟩])
 .ret)
abbrev c32_1 : PCode :=
 (.cond (.t 4)
  c32_2
  .skip)
abbrev c32_3 : PCode :=
 (.keep [0] (.seq (.region [⟨(.some 10), (.mov (.t 0)), .none⟩,
   ⟨(.some 11), (.bin .quo (.t 10) (.c (.d (.int .i64 10)))), .none⟩,
   ⟨(.some 12), (.call0 32 [(.t 11)]), .none⟩,
   ⟨(.some 13), (.mov (.t 0)), .none⟩,
   ⟨(.some 14), (.bin .rem (.t 13) (.c (.d (.int .i64 10)))), .none⟩,
   ⟨(.some 15), (.bin .add (.c (.d (.int .i64 48))) (.t 14)), .none⟩,
   ⟨(.some 16), (.cvt .u8 (.t 15)), .none⟩,
   ⟨(.some 17), (.bsl 1 [(.t 16)]), .none⟩,
   ⟨(.some 18), (.strOf (.t 17)), .none⟩,
   ⟨(.some 19), (.bin .add (.t 12) (.t 18)), .none⟩,
   ⟨(.some 2), (.mov (.t 19)), .none⟩])
 .ret))
abbrev c32_0 : PCode :=
 (.seq (.seq (.region [⟨(.some 3), (.mov (.t 0)), .none⟩,
   ⟨(.some 4), (.bin .lss (.t 3) (.c (.d (.int .i64 10)))), .none⟩])
 c32_1)
 c32_3)
def c32 : PFun := ⟨
 (.seq (.region [⟨(.some 2), (.mov (.c (.d (.str (bs []))))), .none⟩])
 c32_0),
 1, 20, [(.tmp 2)]⟩

/-- prompter/prompterlaw06.Type -/
abbrev c26_4 : PCode :=
 (.seq (.region [⟨(.some 10), (.faddr 1 (.t 1)), .none⟩,
   ⟨(.some 11), (.load .false 1 (.t 10) .false), .none⟩,
   ⟨(.some 12), (.callp 32 [(.t 11)]), .none⟩,
   ⟨(.some 13), (.bsl 1 [(.c (.d (.str (bs [116, 101, 120, 116])))), (.c (.d (.str (bs [91])))), (.t 12), (.c (.d (.str (bs [93]))))]), .none⟩,
   ⟨(.some 2), (.mov (.t 13)), .none⟩])
 .ret)
abbrev c26_7 : PCode :=
 (.seq (.region [⟨(.some 16), (.faddr 1 (.t 1)), .none⟩,
   ⟨(.some 17), (.load .false 1 (.t 16) .false), .none⟩,
   ⟨(.some 18), (.callp 32 [(.t 17)]), .none⟩,
   ⟨(.some 19), (.bsl 1 [(.c (.d (.str (bs [115, 101, 113])))), (.c (.d (.str (bs [91])))), (.t 18), (.c (.d (.str (bs [93])))), (.c (.d (.str (bs [111, 102]))))]), .none⟩,
   ⟨(.some 20), (.faddr 3 (.t 1)), .none⟩,
   ⟨(.some 21), (.load .false 1 (.t 20) .false), .none⟩,
   ⟨(.some 22), (.iaddr 4 (.t 21) (.c (.d (.int .i64 0)))), .none⟩,
   ⟨(.some 23), (.load .true 4 (.t 22) .false), .none⟩,
   ⟨(.some 24), (.callp 26 [(.t 23)]), .none⟩,
   ⟨(.some 25), (.app 1 16 (.t 19) (.t 24)), .none⟩,
   ⟨(.some 2), (.mov (.t 25)), .none⟩])
 .ret)
abbrev c26_10 : PCode :=
 (.seq (.region [⟨(.some 28), (.faddr 2 (.t 1)), .none⟩,
   ⟨(.some 29), (.load .false 1 (.t 28) .false), .none⟩,
   ⟨(.some 30), (.iaddr 1 (.t 29) (.c (.d (.int .i64 0)))), .none⟩,
   ⟨(.some 31), (.load .false 1 (.t 30) .false), .none⟩,
   ⟨(.some 32), (.bsl 1 [(.t 31)]), .none⟩,
   ⟨(.some 2), (.mov (.t 32)), .none⟩])
 .ret)
abbrev c26_15 : PCode :=
 (.region [⟨(.some 36), (.bin .eql (.t 7) (.c (.d (.int .u8 7)))), .none⟩,
   ⟨(.some 33), (.mov (.t 36)), .none⟩])
abbrev c26_14 : PCode :=
 (.cond (.t 33)
  .skip
  c26_15)
abbrev c26_13 : PCode :=
 (.seq (.region [⟨(.some 35), (.bin .eql (.t 7) (.c (.d (.int .u8 8)))), .none⟩,
   ⟨(.some 33), (.mov (.t 35)), .none⟩])
 c26_14)
abbrev c26_12 : PCode :=
 (.cond (.t 33)
  .skip
  c26_13)
abbrev c26_23 : PCode :=
 (.region [⟨(.some 53), (.mov (.t 3)), .none⟩,
   ⟨(.some 54), (.bsl 1 [(.c (.d (.str (bs [44]))))]), .none⟩,
   ⟨(.some 55), (.app 1 16 (.t 53) (.t 54)), .none⟩,
   ⟨(.some 3), (.mov (.t 55)), .none⟩])
abbrev c26_22 : PCode :=
 (.cond (.t 52)
  c26_23
  .skip)
abbrev c26_27 : PCode :=
 (.region [⟨(.some 63), (.mov (.t 3)), .none⟩,
   ⟨(.some 64), (.bsl 1 [(.c (.d (.str (bs [58]))))]), .none⟩,
   ⟨(.some 65), (.app 1 16 (.t 63) (.t 64)), .none⟩,
   ⟨(.some 66), (.faddr 3 (.t 1)), .none⟩,
   ⟨(.some 67), (.load .false 1 (.t 66) .false), .none⟩,
   ⟨(.some 68), (.mov (.t 4)), .none⟩,
   ⟨(.some 69), (.iaddr 4 (.t 67) (.t 68)), .none⟩,
   ⟨(.some 70), (.load .true 4 (.t 69) .false), .none⟩,
   ⟨(.some 71), (.callp 26 [(.t 70)]), .none⟩,
   ⟨(.some 72), (.app 1 16 (.t 65) (.t 71)), .none⟩,
   ⟨(.some 3), (.mov (.t 72)), .none⟩])
abbrev c26_26 : PCode :=
 (.cond (.t 62)
  c26_27
  .skip)
abbrev c26_25 : PCode :=
 (.keep [1, 3, 4, 44, 45, 46] (.seq (.region [⟨(.some 60), (.faddr 0 (.t 1)), .none⟩,
   ⟨(.some 61), (.load .false 1 (.t 60) .false), .none⟩,
   ⟨(.some 62), (.bin .neq (.t 61) (.c (.d (.int .u8 7)))), .none⟩])
 c26_26))
abbrev c26_24 : PCode :=
 (.keep [1, 3, 4, 5, 44, 45, 46] (.seq (.region [⟨(.some 56), (.mov (.t 3)), .none⟩,
   ⟨(.some 57), (.mov (.t 5)), .none⟩,
   ⟨(.some 58), (.bsl 1 [(.t 57)]), .none⟩,
   ⟨(.some 59), (.app 1 16 (.t 56) (.t 58)), .none⟩,
   ⟨(.some 3), (.mov (.t 59)), .none⟩])
 c26_25))
abbrev c26_21 : PCode :=
 (.keep [1, 3, 4, 5, 44, 45, 46] (.seq (.seq (.region [⟨(.some 51), (.mov (.t 4)), .none⟩,
   ⟨(.some 52), (.bin .gtr (.t 51) (.c (.d (.int .i64 0)))), .none⟩])
 c26_22)
 c26_24))
abbrev c26_20 : PCode :=
 (.block 2 (.seq (.region [⟨(.some 48), (.mov (.t 46)), .none⟩,
   ⟨(.some 49), (.iaddr 1 (.t 44) (.t 46)), .none⟩,
   ⟨(.some 50), (.load .false 1 (.t 49) .false), .none⟩,
   ⟨(.some 4), (.mov (.t 48)), .none⟩,
   ⟨(.some 5), (.mov (.t 50)), .none⟩])
 c26_21))
abbrev c26_19 : PCode :=
 (.keep [1, 3, 44, 45, 46] (.block 1 (.loop (.some [46, 3, 1, 44, 45]) (.seq (.region [⟨(.some 47), (.bin .lss (.t 46) (.t 45)), .none⟩])
 (.seq (.cond (.t 47)
  .skip
  (.exit 1))
 (.seq c26_20
 (.region [⟨(.some 73), (.bin .add (.t 46) (.c (.d (.int .i64 1)))), .none⟩,
   ⟨(.some 46), (.mov (.t 73)), .none⟩])))))))
abbrev c26_28 : PCode :=
 (.seq (.region [⟨(.some 74), (.mov (.t 3)), .none⟩,
   ⟨(.some 75), (.bsl 1 [(.c (.d (.str (bs [125]))))]), .none⟩,
   ⟨(.some 76), (.app 1 16 (.t 74) (.t 75)), .none⟩,
   ⟨(.some 2), (.mov (.t 76)), .none⟩])
 .ret)
abbrev c26_18 : PCode :=
 (.keep [1, 3] (.seq (.seq (.region [⟨(.some 43), (.faddr 2 (.t 1)), .none⟩,
   ⟨(.some 44), (.load .false 1 (.t 43) .false), .none⟩,
   ⟨(.some 45), (.len (.t 44)), .none⟩,
   ⟨(.some 46), (.mov (.c (.d (.int .i64 0)))), .none⟩])
 c26_19)
 c26_28))
abbrev c26_17 : PCode :=
 (.seq (.region [⟨(.some 37), (.mkmap (.int .u8)), .none⟩,
   ⟨.none, (.mins (.int .u8) (.t 37) (.c (.d (.int .u8 6))) (.c (.d (.str (bs [114, 101, 99, 111, 114, 100]))))), .none⟩,
   ⟨.none, (.mins (.int .u8) (.t 37) (.c (.d (.int .u8 8))) (.c (.d (.str (bs [99, 104, 111, 105, 99, 101]))))), .none⟩,
   ⟨.none, (.mins (.int .u8) (.t 37) (.c (.d (.int .u8 7))) (.c (.d (.str (bs [101, 110, 117, 109]))))), .none⟩,
   ⟨(.some 38), (.mov (.t 37)), .none⟩,
   ⟨(.some 39), (.faddr 0 (.t 1)), .none⟩,
   ⟨(.some 40), (.load .false 1 (.t 39) .false), .none⟩,
   ⟨(.some 41), (.mget (.int .u8) (.d (.str (bs []))) .false (.t 38) (.t 40)), .none⟩,
   ⟨(.some 42), (.bsl 1 [(.t 41), (.c (.d (.str (bs [123]))))]), .none⟩,
   ⟨(.some 3), (.mov (.t 42)), .none⟩])
 c26_18)
abbrev c26_16 : PCode :=
 (.keep [1, 33] (.cond (.t 33)
  c26_17
  .skip))
abbrev c26_11 : PCode :=
 (.seq (.seq (.region [⟨(.some 34), (.bin .eql (.t 7) (.c (.d (.int .u8 6)))), .none⟩,
   ⟨(.some 33), (.mov (.t 34)), .none⟩])
 c26_12)
 c26_16)
abbrev c26_9 : PCode :=
 (.cond (.t 26)
  c26_10
  c26_11)
abbrev c26_8 : PCode :=
 (.seq (.region [⟨(.some 27), (.bin .eql (.t 7) (.c (.d (.int .u8 9)))), .none⟩,
   ⟨(.some 26), (.mov (.t 27)), .none⟩])
 c26_9)
abbrev c26_6 : PCode :=
 (.cond (.t 14)
  c26_7
  c26_8)
abbrev c26_5 : PCode :=
 (.seq (.region [⟨(.some 15), (.bin .eql (.t 7) (.c (.d (.int .u8 5)))), .none⟩,
   ⟨(.some 14), (.mov (.t 15)), .none⟩])
 c26_6)
abbrev c26_3 : PCode :=
 (.cond (.t 8)
  c26_4
  c26_5)
abbrev c26_2 : PCode :=
 (.block 0 (.seq (.region [⟨(.some 9), (.bin .eql (.t 7) (.c (.d (.int .u8 4)))), .none⟩,
   ⟨(.some 8), (.mov (.t 9)), .none⟩])
 c26_3))
abbrev c26_29 : PCode :=
 (.seq (.region [⟨(.some 77), (.bsl 1 [(.c (.d (.str (bs [98, 111, 111, 108])))), (.c (.d (.str (bs [99, 97, 114, 100])))), (.c (.d (.str (bs [108, 111, 110, 103])))), (.c (.d (.str (bs [114, 101, 97, 108]))))]), .none⟩,
   ⟨(.some 78), (.faddr 0 (.t 1)), .none⟩,
   ⟨(.some 79), (.load .false 1 (.t 78) .false), .none⟩,
   ⟨(.some 80), (.bin .rem (.t 79) (.c (.d (.int .u8 4)))), .none⟩,
   ⟨(.some 81), (.iaddr 1 (.t 77) (.t 80)), .none⟩,
   ⟨(.some 82), (.load .false 1 (.t 81) .false), .none⟩,
   ⟨(.some 83), (.bsl 1 [(.t 82)]), .none⟩,
   ⟨(.some 2), (.mov (.t 83)), .none⟩])
 .ret)
abbrev c26_1 : PCode :=
 (.seq (.seq (.region [⟨(.some 6), (.faddr 0 (.t 1)), .none⟩,
   ⟨(.some 7), (.load .false 1 (.t 6) .false), .none⟩])
 c26_2)
 c26_29)
abbrev c26_0 : PCode :=
 (.seq (.region [⟨(.some 3), (.mov (.c (.full []))), .none⟩])
 c26_1)
def c26 : PFun := ⟨
 (.seq (.region [⟨(.some 1), (.box 4 (.t 0)), .none⟩,
   ⟨(.some 2), (.mov (.c (.full []))), .none⟩])
 c26_0),
 1, 84, [(.tmp 2)]⟩

theorem e32 : entered Tryd.prog 32 = true := by kernel_rfl
theorem k32 : compFun Tryd.prog (fun _ => 0) 32 = some c32.er := by kernel_rfl
theorem e26 : entered Tryd.prog 26 = true := by kernel_rfl
theorem k26 : compFun Tryd.prog (fun _ => 1) 26 = some c26.er := by kernel_rfl

theorem strOf_one (c : Nat) (h : c < 256) : strOfRows [[Dat.int .u8 (c : Int)]] = some [UInt8.ofNat c] := by
  simp only [strOfRows, Option.map_some, Int.toNat_natCast]
theorem C32 : ∀ (n : Nat), n < 10 ^ 18 → Pure (PCalls Tryd.prog GK) 32 [.d (.int .i64 n)] (.d (.str (numTx n))) := by
  intro n
  induction n using Nat.strongRecOn with
  | ind n ih =>
  intro hn
  have hs := (numTx_size n).2 17 hn
  intro st; refine pcalls_of k32 e32 (of_decide_eq_true rfl) ?_; dsimp only [c32]; refine pstartL ?_; intro t hL; generalize hQ : pfin _ _ = Q
  rw [numTx] at hQ hs
  refine gor hL ?_; (repeat (clear hL; intro t hL; refine gor hL ?_))
  by_cases h : n < 10
  · rw [if_pos h] at hQ
    refine gnm ?_; rw [decide_eq_true (show (n : Int) < 10 by omega)]
    refine gor hL ?_; (repeat (clear hL; intro t hL; refine gor hL ?_))
    refine gnm ?_; rw [show IntKind.u8.wrap (IntKind.i64.wrap (48 + (n : Int))) = ((48 + n : Nat) : Int) by rw [IntWalk.i64_in _ (by omega), IntWalk.u8_in _ (by omega)]; omega]
    refine gor hL ?_; (repeat (clear hL; intro t hL; refine gor hL ?_))
    rw [← hQ]
    exact pfin_pure rfl hL.le
  · rw [if_neg h] at hQ hs
    have e1 : IntKind.i64.wrap ((n : Int).tdiv 10) = ((n / 10 : Nat) : Int) := by
      rw [Int.tdiv_eq_ediv_of_nonneg (by omega), IntWalk.i64_in _ (by omega)]; omega
    have e2 : (n : Int).tmod 10 = ((n % 10 : Nat) : Int) := by
      rw [Int.tmod_eq_emod_of_nonneg (by omega)]; omega
    refine gnm ?_; rw [decide_eq_false (show ¬ (n : Int) < 10 by omega)]
    refine gor hL ?_; (repeat (clear hL; intro t hL; refine gor hL ?_))
    refine gnm ?_; rw [e1]
    refine po_c0 (ih (n / 10) (by omega) (by omega)) ?_
    refine gor hL ?_; (repeat (clear hL; intro t hL; refine gor hL ?_))
    refine gnm ?_; rw [e2]
    refine gor hL ?_; (repeat (clear hL; intro t hL; refine gor hL ?_))
    refine gnm ?_; rw [show IntKind.u8.wrap (IntKind.i64.wrap (48 + ((n % 10 : Nat) : Int))) = ((48 + n % 10 : Nat) : Int) by rw [IntWalk.i64_in _ (by omega), IntWalk.u8_in _ (by omega)]; omega]
    refine gor hL ?_; (repeat (clear hL; intro t hL; refine gor hL ?_))
    refine po rfl (str_add (x := numTx (n / 10)) (y := bs [48 + n % 10]) rfl rfl (by rw [ByteArray.size_append] at hs; omega)) ?_
    refine gor hL ?_; (repeat (clear hL; intro t hL; refine gor hL ?_))
    rw [← hQ]
    exact pfin_pure rfl hL.le
/-- The texts of tokens. -/
abbrev TX (l : List Tk) : List ByteArray := l.map (·.2)
def fldPre : List (ByteArray × List ByteArray) → List ByteArray
  | [] => []
  | x :: xs => x.1 :: (x.2 ++ xs.flatMap fun y => sComma :: y.1 :: y.2)
theorem fldPre_snoc (F : List (ByteArray × List ByteArray)) (x : ByteArray × List ByteArray) : fldPre (F ++ [x]) = fldPre F ++ ((if F = [] then [] else [sComma]) ++ x.1 :: x.2) := by
  cases F with
  | nil => simp [fldPre]
  | cons y F => simp [fldPre, List.flatMap_append]
theorem fldPre_eq (x : ByteArray × List ByteArray) (y : ByteArray × List ByteArray) (F : List (ByteArray × List ByteArray)) : fldPre (x :: y :: F) = x.1 :: (x.2 ++ sComma :: fldPre (y :: F)) := by simp [fldPre]
theorem fldToks_tx : ∀ F : List (ByteArray × List Tk), TX (fldToks F) = fldPre (F.map fun x => (x.1, TX x.2))
  | [] => rfl
  | [(s, t)] => by simp [fldToks, fldPre]
  | (s, t) :: x :: F => by
    rw [List.map_cons, List.map_cons, fldPre_eq]
    have := fldToks_tx (x :: F)
    rw [List.map_cons] at this
    rw [← this]
    simp [fldToks]
theorem KT.av_mk (k m : Int) (n : List ByteArray) (o : List KT) : (KT.mk k m n o).av = .agg [.d (.int .u8 k), .d (.int .i64 m), .d (.sl (srows n)), .d (.sl (o.map KT.row))] := by rw [KT.av_eq]; rfl
theorem fldToks_part {F : List (ByteArray × List Tk)} {x : ByteArray × List Tk} (h : x ∈ F) : x.2.length ≤ (fldToks F).length := by
  induction F with
  | nil => cases h
  | cons y F ih =>
    obtain ⟨s, t⟩ := y
    cases F with
    | nil =>
      rw [List.mem_singleton.1 h]
      simp [fldToks]
    | cons z F =>
      simp only [fldToks, List.cons_append, List.length_cons, List.length_append]
      rcases List.mem_cons.1 h with rfl | h
      · simp only; omega
      · have := ih h; omega
/-- A type's texts. -/
theorem typeC_base (k : Int) (hk : 0 ≤ k ∧ k ≤ 3) : Pure (PCalls Tryd.prog GK) 26 [(KT.mk k 0 [] []).av] (.d (strs [kw4 k])) := by
  rw [KT.av_mk]
  have : k = 0 ∨ k = 1 ∨ k = 2 ∨ k = 3 := by omega
  rcases this with rfl | rfl | rfl | rfl
  all_goals
    intro st; refine pcalls_of k26 e26 (of_decide_eq_true rfl) ?_; dsimp only [c26]; refine pstartL ?_; intro t hL; generalize hQ : pfin _ _ = Q
    (refine gor hL ?_; (repeat (clear hL; intro t hL; refine gor hL ?_))); refine po_boxA hL ?_; clear hL; intro p1 t hL
    refine gor hL ?_; (repeat (clear hL; intro t hL; refine gor hL ?_)); (repeat (refine pseqk ?_; refine gor hL ?_; (repeat (clear hL; intro t hL; refine gor hL ?_))))
    refine gor hL ?_; (repeat (clear hL; intro t hL; refine gor hL ?_)); (repeat (refine pseqk ?_; refine gor hL ?_; (repeat (clear hL; intro t hL; refine gor hL ?_))))
    refine gor hL ?_; (repeat (clear hL; intro t hL; refine gor hL ?_)); (repeat (refine pseqk ?_; refine gor hL ?_; (repeat (clear hL; intro t hL; refine gor hL ?_))))
    rw [← hQ]
    exact pfin_weak rfl rfl hL.le
theorem typeC_text (m : Int) (hm : numOk m) : Pure (PCalls Tryd.prog GK) 26 [(KT.mk 4 m [] []).av] (.d (strs (TX (KT.mk 4 m [] []).toks))) := by
  rw [KT.av_mk, KT.toks, if_pos rfl]
  obtain ⟨n, rfl⟩ := Int.eq_ofNat_of_zero_le hm.1
  have h10 := hm.2
  intro st; refine pcalls_of k26 e26 (of_decide_eq_true rfl) ?_; dsimp only [c26]; refine pstartL ?_; intro t hL; generalize hQ : pfin _ _ = Q
  (refine gor hL ?_; (repeat (clear hL; intro t hL; refine gor hL ?_))); refine po_boxA hL ?_; clear hL; intro p1 t hL
  refine gor hL ?_; (repeat (clear hL; intro t hL; refine gor hL ?_)); (repeat (refine pseqk ?_; refine gor hL ?_; (repeat (clear hL; intro t hL; refine gor hL ?_))))
  refine gor hL ?_; (repeat (clear hL; intro t hL; refine gor hL ?_)); (repeat (refine pseqk ?_; refine gor hL ?_; (repeat (clear hL; intro t hL; refine gor hL ?_))))
  refine po_cp (C32 n (by omega)) ?_
  refine gor hL ?_; (repeat (clear hL; intro t hL; refine gor hL ?_)); (repeat (refine pseqk ?_; refine gor hL ?_; (repeat (clear hL; intro t hL; refine gor hL ?_))))
  rw [← hQ]
  exact pfin_weak rfl rfl hL.le
theorem typeC_seq (m : Int) (hm : numOk m) (o : KT) (ho : o.toks.length < 2 ^ 40) (hC : Pure (PCalls Tryd.prog GK) 26 [o.av] (.d (strs (TX o.toks)))) : Pure (PCalls Tryd.prog GK) 26 [(KT.mk 5 m [] [o]).av] (.d (strs (TX (KT.mk 5 m [] [o]).toks))) := by
  rw [KT.av_mk, KT.toks, if_neg (by decide), if_pos rfl]
  obtain ⟨n, rfl⟩ := Int.eq_ofNat_of_zero_le hm.1
  have h10 := hm.2
  rw [KT.av_eq] at hC
  simp only [KT.toksL, List.headD_cons]
  rw [show TX ([(1, kSeq), (3, sBraL), (2, numX (n : Int)), (3, sBraR), (1, kOf)] ++ o.toks) = [kSeq, sBraL, numTx n, sBraR, kOf] ++ TX o.toks from List.map_append]
  have hl : (TX o.toks).length < 2 ^ 40 := by rw [List.length_map]; exact ho
  generalize TX o.toks = X at *
  intro st; refine pcalls_of k26 e26 (of_decide_eq_true rfl) ?_; dsimp only [c26]; refine pstartL ?_; intro t hL; generalize hQ : pfin _ _ = Q
  (refine gor hL ?_; (repeat (clear hL; intro t hL; refine gor hL ?_))); refine po_boxA hL ?_; clear hL; intro p1 t hL
  refine gor hL ?_; (repeat (clear hL; intro t hL; refine gor hL ?_)); (repeat (refine pseqk ?_; refine gor hL ?_; (repeat (clear hL; intro t hL; refine gor hL ?_))))
  refine gor hL ?_; (repeat (clear hL; intro t hL; refine gor hL ?_)); (repeat (refine pseqk ?_; refine gor hL ?_; (repeat (clear hL; intro t hL; refine gor hL ?_))))
  refine po_cp (C32 n (by omega)) ?_
  refine gor hL ?_; (repeat (clear hL; intro t hL; refine gor hL ?_)); (repeat (refine pseqk ?_; refine gor hL ?_; (repeat (clear hL; intro t hL; refine gor hL ?_))))
  refine po_iaddr0 (l := [o]) (f := KT.row) rfl (KT.row_len o) ?_
  refine gor hL ?_; (repeat (clear hL; intro t hL; refine gor hL ?_)); (repeat (refine pseqk ?_; refine gor hL ?_; (repeat (clear hL; intro t hL; refine gor hL ?_))))
  refine po_cp (hC) ?_
  replace hL := hL.full (srows [kSeq, sBraL, numTx n, sBraR, kOf]) 1
  refine po_appA hL (hn := srows_one) srows_one ?_ ?_; (· rw [len_srows, len_srows]; simp; omega); clear hL; intro v t fv hL; obtain ⟨fv_r, fv_w, fv_w1, fv_c, fv_s, fv_d⟩ := id fv
  rw [srows_app] at hL fv fv_w
  refine gor hL ?_; (repeat (clear hL; intro t hL; refine gor hL ?_)); (repeat (refine pseqk ?_; refine gor hL ?_; (repeat (clear hL; intro t hL; refine gor hL ?_))))
  rw [← hQ]
  exact pfin_weak (u := v) rfl fv_w hL.le
theorem typeC_ref (x : ByteArray) : Pure (PCalls Tryd.prog GK) 26 [(KT.mk 9 0 [x] []).av] (.d (strs [x])) := by
  rw [KT.av_mk]
  intro st; refine pcalls_of k26 e26 (of_decide_eq_true rfl) ?_; dsimp only [c26]; refine pstartL ?_; intro t hL; generalize hQ : pfin _ _ = Q
  (refine gor hL ?_; (repeat (clear hL; intro t hL; refine gor hL ?_))); refine po_boxA hL ?_; clear hL; intro p1 t hL
  refine gor hL ?_; (repeat (clear hL; intro t hL; refine gor hL ?_)); (repeat (refine pseqk ?_; refine gor hL ?_; (repeat (clear hL; intro t hL; refine gor hL ?_))))
  refine gor hL ?_; (repeat (clear hL; intro t hL; refine gor hL ?_)); (repeat (refine pseqk ?_; refine gor hL ?_; (repeat (clear hL; intro t hL; refine gor hL ?_))))
  rw [← hQ]
  exact pfin_weak (u := .full [[.str x]]) rfl rfl hL.le
theorem fldPre_len : ∀ F : List (ByteArray × List ByteArray), F.length ≤ (fldPre F).length
  | [] => Nat.le_refl _
  | x :: F => by
    have : F.length ≤ (F.flatMap fun y => sComma :: y.1 :: y.2).length := by
      induction F with
      | nil => exact Nat.le_refl _
      | cons y F ih => simp at ih ⊢; omega
    simp [fldPre] at this ⊢; omega
theorem fldPre_take (F : List (ByteArray × List ByteArray)) (k : Nat) : (fldPre (F.take k)).length ≤ (fldPre F).length := by
  cases F with
  | nil => simp
  | cons x F =>
    cases k with
    | zero => simp [fldPre]
    | succ k =>
      rw [List.take_succ_cons, fldPre, fldPre]
      have : ((F.take k).flatMap fun y => sComma :: y.1 :: y.2).length ≤ (F.flatMap fun y => sComma :: y.1 :: y.2).length := by
        conv => rhs; rw [← List.take_append_drop k F]
        rw [List.flatMap_append, List.length_append]; omega
      simp at this ⊢; omega
theorem typeC_6 (n : List ByteArray) (o : List KT) (hno : n.length = o.length) (ho : ∀ t ∈ o, Pure (PCalls Tryd.prog GK) 26 [t.av] (.d (strs (TX t.toks)))) (hl : (kRecord :: sOpen :: (fldPre (n.zip (o.map fun t => sColon :: TX t.toks)) ++ [sClose])).length < 2 ^ 40) :
    Pure (PCalls Tryd.prog GK) 26 [(KT.mk 6 0 n o).av] (.d (strs (kRecord :: sOpen :: (fldPre (n.zip (o.map fun t => sColon :: TX t.toks)) ++ [sClose])))) := by
  rw [KT.av_mk]
  have hFk : ∀ k (hk : k < n.length), (n.zip (o.map fun t => sColon :: TX t.toks))[k]? = some (n[k], sColon :: TX (o[k]).toks) := by
    intro k hk
    rw [List.getElem?_zip_eq_some]; exact ⟨List.getElem?_eq_getElem hk, by rw [List.getElem?_map, List.getElem?_eq_getElem (show k < o.length by omega)]; rfl⟩
  have hFl : (n.zip (o.map fun t => sColon :: TX t.toks)).length = n.length := by simp [hno]
  generalize (n.zip (o.map fun t => sColon :: TX t.toks)) = F at *
  have hnl : n.length < 2 ^ 40 := by
    have := fldPre_len F
    simp at hl; omega
  intro st; refine pcalls_of k26 e26 (of_decide_eq_true rfl) ?_; dsimp only [c26]; refine pstartL ?_; intro t hL; generalize hQ : pfin _ _ = Q
  (refine gor hL ?_; (repeat (clear hL; intro t hL; refine gor hL ?_))); refine po_boxA hL ?_; clear hL; intro p1 t hL
  refine gor hL ?_; (repeat (clear hL; intro t hL; refine gor hL ?_)); (repeat (refine pseqk ?_; refine gor hL ?_; (repeat (clear hL; intro t hL; refine gor hL ?_))))
  refine po_mkmapL hL ?_
  clear hL; intro mb t hL
  refine gor hL ?_; (repeat (clear hL; intro t hL; refine gor hL ?_))
  refine po_minsL (es' := [(.d (.int .u8 6), .d (.str kRecord))]) hL ?_
  clear hL; intro t hL
  refine gor hL ?_; (repeat (clear hL; intro t hL; refine gor hL ?_))
  refine po_minsL (es' := [(.d (.int .u8 6), .d (.str kRecord)), (.d (.int .u8 8), .d (.str kChoice))]) hL ?_
  clear hL; intro t hL
  refine gor hL ?_; (repeat (clear hL; intro t hL; refine gor hL ?_))
  refine po_minsL (es' := [(.d (.int .u8 6), .d (.str kRecord)), (.d (.int .u8 8), .d (.str kChoice)), (.d (.int .u8 7), .d (.str kEnum))]) hL ?_
  clear hL; intro t hL
  refine gor hL ?_; (repeat (clear hL; intro t hL; refine gor hL ?_))
  refine po_mgetL (o := some (.d (.str kRecord))) hL ?_ rfl
  refine gor hL ?_; (repeat (clear hL; intro t hL; refine gor hL ?_)); (repeat (refine pseqk ?_; refine gor hL ?_; (repeat (clear hL; intro t hL; refine gor hL ?_))))
  replace hL := hL.full (srows [kRecord, sOpen]) 1
  (apply prangeA (n.length) (by omega) (fun (v : AV) z => put z (some 3) v) (fun k v t => Lay st [.box p1 [.d (.int .u8 6), .d (.int .i64 0), .d (.sl (srows n)), .d (.sl (o.map KT.row))], .vec v (srows (kRecord :: sOpen :: fldPre (F.take k))) 1] t) ((.full (srows [kRecord, sOpen])))); (· exact trimA); (· exact fun _ _ => rfl)
  · exact hL.pk
  · intro v t hL
    rw [List.take_of_length_le (by omega)] at hL
    have fv := hL.vk v
    obtain ⟨fv_r, fv_w, fv_w1, fv_c, fv_s, fv_d⟩ := id fv
    refine gor hL ?_; (repeat (clear hL; intro t hL; refine gor hL ?_))
    refine po_appA hL (hn := srows_one (l := [sClose])) srows_one ?_ ?_; (· (rw [len_srows, len_srows]; simp at hl ⊢; omega)); clear hL; intro v' t fv' hL; obtain ⟨fv'_r, fv'_w, fv'_w1, fv'_c, fv'_s, fv'_d⟩ := id fv'
    rw [srows_app] at hL fv' fv'_w
    refine gor hL ?_; (repeat (clear hL; intro t hL; refine gor hL ?_))
    rw [← hQ]
    exact pfin_weak (u := v') rfl fv'_w hL.le
  · intro k hk v t hL
    have hnk : n[k]? = some n[k] := List.getElem?_eq_getElem hk
    have fv := hL.vk v
    obtain ⟨fv_r, fv_w, fv_w1, fv_c, fv_s, fv_d⟩ := id fv
    have hpre := fldPre_snoc (F.take k) (n[k], sColon :: TX (o[k]).toks)
    rw [← take_snoc (hFk k hk)] at hpre
    have hfl := fldPre_take F (k + 1)
    rw [hpre] at hfl ⊢
    have hF0 : F.take k = [] ↔ k = 0 := by
      rw [List.take_eq_nil_iff]
      exact ⟨fun h => h.resolve_right (fun e => by rw [e] at hFl; simp at hFl; omega), .inl⟩
    have e1 : (if F.take k = [] then ([] : List ByteArray) else [sComma]) = if k = 0 then [] else [sComma] := by
      by_cases h0 : k = 0
      · rw [if_pos h0, if_pos (hF0.2 h0)]
      · rw [if_neg h0, if_neg (fun e => h0 (hF0.1 e))]
    rw [e1] at hfl ⊢
    generalize fldPre (F.take k) = X at *
    generalize fldPre F = Y at *
    simp only [List.length_cons, List.length_append, List.length_nil] at hl hfl
    have hok : o[k]? = some o[k] := List.getElem?_eq_getElem (by omega)
    have hC := ho _ (List.mem_of_getElem? hok)
    generalize n[k] = nm at *
    generalize o[k] = ok at *
    generalize TX ok.toks = Z at *
    rw [KT.av_eq] at hC
    refine pblock ?_
    refine gor hL ?_; (repeat (clear hL; intro t hL; refine gor hL ?_))
    refine pjoinC (fun s' u => ∃ w, s' = put (put (put (put (put (put (put (fun _ => .undef) (some 46) (i64 k)) (some 45) (i64 n.length)) (some 44) (.d (.sl (srows n)))) (some 5) (.d (.str nm))) (some 4) (i64 k)) (some 3) w) (some 1) (ptrAt p1) ∧ Lay st [.box p1 [.d (.int .u8 6), .d (.int .i64 0), .d (.sl (srows n)), .d (.sl (o.map KT.row))], .vec w (srows (kRecord :: sOpen :: (X ++ if k = 0 then [] else [sComma]))) 1] u) ?_ ?_
    · refine gor hL ?_; (repeat (clear hL; intro t hL; refine gor hL ?_))
      by_cases h0 : k = 0
      · refine gnm ?_; rw [decide_eq_false (show ¬ (k : Int) > 0 by omega)]
        refine gor hL ?_; (repeat (clear hL; intro t hL; refine gor hL ?_))
        rw [if_pos h0, List.append_nil]
        exact ⟨v, (by first | exact trimA | simp +decide only [pvc, pvi, pvt]), hL.pk⟩
      · refine gnm ?_; rw [decide_eq_true (show (k : Int) > 0 by omega)]
        refine gor hL ?_; (repeat (clear hL; intro t hL; refine gor hL ?_))
        refine po_appA hL (hn := srows_one (l := [sComma])) srows_one ?_ ?_; (· (rw [len_srows, len_srows]; simp; omega)); clear hL; intro v' t fv' hL; obtain ⟨fv'_r, fv'_w, fv'_w1, fv'_c, fv'_s, fv'_d⟩ := id fv'
        rw [srows_app] at hL fv' fv'_w
        refine gor hL ?_; (repeat (clear hL; intro t hL; refine gor hL ?_))
        rw [if_neg h0]
        exact ⟨v', (by first | exact trimA | simp +decide only [pvc, pvi, pvt]), hL.pk⟩
    clear hL fv fv_r fv_w fv_w1 fv_c fv_s fv_d v
    rintro s' u ⟨v, rfl, hL⟩
    generalize (if k = 0 then ([] : List ByteArray) else [sComma]) = C at *
    have fv := hL.vk v
    obtain ⟨fv_r, fv_w, fv_w1, fv_c, fv_s, fv_d⟩ := id fv
    refine gor hL ?_; (repeat (clear hL; intro t hL; refine gor hL ?_))
    refine po_appA hL (hn := srows_one (l := [nm])) srows_one ?_ ?_; (· (rw [len_srows, len_srows]; simp at hfl ⊢; omega)); clear hL; intro v1 t fv1 hL; obtain ⟨fv1_r, fv1_w, fv1_w1, fv1_c, fv1_s, fv1_d⟩ := id fv1
    rw [srows_app] at hL fv1 fv1_w
    refine gor hL ?_; (repeat (clear hL; intro t hL; refine gor hL ?_))
    refine po_appA hL (hn := srows_one (l := [sColon])) srows_one ?_ ?_; (· (rw [len_srows, len_srows]; simp at hfl ⊢; omega)); clear hL; intro v2 t fv2 hL; obtain ⟨fv2_r, fv2_w, fv2_w1, fv2_c, fv2_s, fv2_d⟩ := id fv2
    rw [srows_app] at hL fv2 fv2_w
    refine gor hL ?_; (repeat (clear hL; intro t hL; refine gor hL ?_))
    refine po_cp (hC) ?_
    refine gor hL ?_; (repeat (clear hL; intro t hL; refine gor hL ?_))
    refine po_appA hL (hn := srows_one (l := Z)) srows_one ?_ ?_; (· (rw [len_srows, len_srows]; simp at hfl ⊢; omega)); clear hL; intro v3 t fv3 hL; obtain ⟨fv3_r, fv3_w, fv3_w1, fv3_c, fv3_s, fv3_d⟩ := id fv3
    rw [srows_app] at hL fv3 fv3_w
    refine gor hL ?_; (repeat (clear hL; intro t hL; refine gor hL ?_))
    rw [show kRecord :: sOpen :: (X ++ C) ++ [nm] ++ [sColon] ++ Z = kRecord :: sOpen :: (X ++ (C ++ nm :: sColon :: Z)) by simp] at hL
    exact ⟨v3, hL.pk, tr2⟩
theorem typeC_8 (n : List ByteArray) (o : List KT) (hno : n.length = o.length) (ho : ∀ t ∈ o, Pure (PCalls Tryd.prog GK) 26 [t.av] (.d (strs (TX t.toks)))) (hl : (kChoice :: sOpen :: (fldPre (n.zip (o.map fun t => sColon :: TX t.toks)) ++ [sClose])).length < 2 ^ 40) :
    Pure (PCalls Tryd.prog GK) 26 [(KT.mk 8 0 n o).av] (.d (strs (kChoice :: sOpen :: (fldPre (n.zip (o.map fun t => sColon :: TX t.toks)) ++ [sClose])))) := by
  rw [KT.av_mk]
  have hFk : ∀ k (hk : k < n.length), (n.zip (o.map fun t => sColon :: TX t.toks))[k]? = some (n[k], sColon :: TX (o[k]).toks) := by
    intro k hk
    rw [List.getElem?_zip_eq_some]; exact ⟨List.getElem?_eq_getElem hk, by rw [List.getElem?_map, List.getElem?_eq_getElem (show k < o.length by omega)]; rfl⟩
  have hFl : (n.zip (o.map fun t => sColon :: TX t.toks)).length = n.length := by simp [hno]
  generalize (n.zip (o.map fun t => sColon :: TX t.toks)) = F at *
  have hnl : n.length < 2 ^ 40 := by
    have := fldPre_len F
    simp at hl; omega
  intro st; refine pcalls_of k26 e26 (of_decide_eq_true rfl) ?_; dsimp only [c26]; refine pstartL ?_; intro t hL; generalize hQ : pfin _ _ = Q
  (refine gor hL ?_; (repeat (clear hL; intro t hL; refine gor hL ?_))); refine po_boxA hL ?_; clear hL; intro p1 t hL
  refine gor hL ?_; (repeat (clear hL; intro t hL; refine gor hL ?_)); (repeat (refine pseqk ?_; refine gor hL ?_; (repeat (clear hL; intro t hL; refine gor hL ?_))))
  refine po_mkmapL hL ?_
  clear hL; intro mb t hL
  refine gor hL ?_; (repeat (clear hL; intro t hL; refine gor hL ?_))
  refine po_minsL (es' := [(.d (.int .u8 6), .d (.str kRecord))]) hL ?_
  clear hL; intro t hL
  refine gor hL ?_; (repeat (clear hL; intro t hL; refine gor hL ?_))
  refine po_minsL (es' := [(.d (.int .u8 6), .d (.str kRecord)), (.d (.int .u8 8), .d (.str kChoice))]) hL ?_
  clear hL; intro t hL
  refine gor hL ?_; (repeat (clear hL; intro t hL; refine gor hL ?_))
  refine po_minsL (es' := [(.d (.int .u8 6), .d (.str kRecord)), (.d (.int .u8 8), .d (.str kChoice)), (.d (.int .u8 7), .d (.str kEnum))]) hL ?_
  clear hL; intro t hL
  refine gor hL ?_; (repeat (clear hL; intro t hL; refine gor hL ?_))
  refine po_mgetL (o := some (.d (.str kChoice))) hL ?_ rfl
  refine gor hL ?_; (repeat (clear hL; intro t hL; refine gor hL ?_)); (repeat (refine pseqk ?_; refine gor hL ?_; (repeat (clear hL; intro t hL; refine gor hL ?_))))
  replace hL := hL.full (srows [kChoice, sOpen]) 1
  (apply prangeA (n.length) (by omega) (fun (v : AV) z => put z (some 3) v) (fun k v t => Lay st [.box p1 [.d (.int .u8 8), .d (.int .i64 0), .d (.sl (srows n)), .d (.sl (o.map KT.row))], .vec v (srows (kChoice :: sOpen :: fldPre (F.take k))) 1] t) ((.full (srows [kChoice, sOpen])))); (· exact trimA); (· exact fun _ _ => rfl)
  · exact hL.pk
  · intro v t hL
    rw [List.take_of_length_le (by omega)] at hL
    have fv := hL.vk v
    obtain ⟨fv_r, fv_w, fv_w1, fv_c, fv_s, fv_d⟩ := id fv
    refine gor hL ?_; (repeat (clear hL; intro t hL; refine gor hL ?_))
    refine po_appA hL (hn := srows_one (l := [sClose])) srows_one ?_ ?_; (· (rw [len_srows, len_srows]; simp at hl ⊢; omega)); clear hL; intro v' t fv' hL; obtain ⟨fv'_r, fv'_w, fv'_w1, fv'_c, fv'_s, fv'_d⟩ := id fv'
    rw [srows_app] at hL fv' fv'_w
    refine gor hL ?_; (repeat (clear hL; intro t hL; refine gor hL ?_))
    rw [← hQ]
    exact pfin_weak (u := v') rfl fv'_w hL.le
  · intro k hk v t hL
    have hnk : n[k]? = some n[k] := List.getElem?_eq_getElem hk
    have fv := hL.vk v
    obtain ⟨fv_r, fv_w, fv_w1, fv_c, fv_s, fv_d⟩ := id fv
    have hpre := fldPre_snoc (F.take k) (n[k], sColon :: TX (o[k]).toks)
    rw [← take_snoc (hFk k hk)] at hpre
    have hfl := fldPre_take F (k + 1)
    rw [hpre] at hfl ⊢
    have hF0 : F.take k = [] ↔ k = 0 := by
      rw [List.take_eq_nil_iff]
      exact ⟨fun h => h.resolve_right (fun e => by rw [e] at hFl; simp at hFl; omega), .inl⟩
    have e1 : (if F.take k = [] then ([] : List ByteArray) else [sComma]) = if k = 0 then [] else [sComma] := by
      by_cases h0 : k = 0
      · rw [if_pos h0, if_pos (hF0.2 h0)]
      · rw [if_neg h0, if_neg (fun e => h0 (hF0.1 e))]
    rw [e1] at hfl ⊢
    generalize fldPre (F.take k) = X at *
    generalize fldPre F = Y at *
    simp only [List.length_cons, List.length_append, List.length_nil] at hl hfl
    have hok : o[k]? = some o[k] := List.getElem?_eq_getElem (by omega)
    have hC := ho _ (List.mem_of_getElem? hok)
    generalize n[k] = nm at *
    generalize o[k] = ok at *
    generalize TX ok.toks = Z at *
    rw [KT.av_eq] at hC
    refine pblock ?_
    refine gor hL ?_; (repeat (clear hL; intro t hL; refine gor hL ?_))
    refine pjoinC (fun s' u => ∃ w, s' = put (put (put (put (put (put (put (fun _ => .undef) (some 46) (i64 k)) (some 45) (i64 n.length)) (some 44) (.d (.sl (srows n)))) (some 5) (.d (.str nm))) (some 4) (i64 k)) (some 3) w) (some 1) (ptrAt p1) ∧ Lay st [.box p1 [.d (.int .u8 8), .d (.int .i64 0), .d (.sl (srows n)), .d (.sl (o.map KT.row))], .vec w (srows (kChoice :: sOpen :: (X ++ if k = 0 then [] else [sComma]))) 1] u) ?_ ?_
    · refine gor hL ?_; (repeat (clear hL; intro t hL; refine gor hL ?_))
      by_cases h0 : k = 0
      · refine gnm ?_; rw [decide_eq_false (show ¬ (k : Int) > 0 by omega)]
        refine gor hL ?_; (repeat (clear hL; intro t hL; refine gor hL ?_))
        rw [if_pos h0, List.append_nil]
        exact ⟨v, (by first | exact trimA | simp +decide only [pvc, pvi, pvt]), hL.pk⟩
      · refine gnm ?_; rw [decide_eq_true (show (k : Int) > 0 by omega)]
        refine gor hL ?_; (repeat (clear hL; intro t hL; refine gor hL ?_))
        refine po_appA hL (hn := srows_one (l := [sComma])) srows_one ?_ ?_; (· (rw [len_srows, len_srows]; simp; omega)); clear hL; intro v' t fv' hL; obtain ⟨fv'_r, fv'_w, fv'_w1, fv'_c, fv'_s, fv'_d⟩ := id fv'
        rw [srows_app] at hL fv' fv'_w
        refine gor hL ?_; (repeat (clear hL; intro t hL; refine gor hL ?_))
        rw [if_neg h0]
        exact ⟨v', (by first | exact trimA | simp +decide only [pvc, pvi, pvt]), hL.pk⟩
    clear hL fv fv_r fv_w fv_w1 fv_c fv_s fv_d v
    rintro s' u ⟨v, rfl, hL⟩
    generalize (if k = 0 then ([] : List ByteArray) else [sComma]) = C at *
    have fv := hL.vk v
    obtain ⟨fv_r, fv_w, fv_w1, fv_c, fv_s, fv_d⟩ := id fv
    refine gor hL ?_; (repeat (clear hL; intro t hL; refine gor hL ?_))
    refine po_appA hL (hn := srows_one (l := [nm])) srows_one ?_ ?_; (· (rw [len_srows, len_srows]; simp at hfl ⊢; omega)); clear hL; intro v1 t fv1 hL; obtain ⟨fv1_r, fv1_w, fv1_w1, fv1_c, fv1_s, fv1_d⟩ := id fv1
    rw [srows_app] at hL fv1 fv1_w
    refine gor hL ?_; (repeat (clear hL; intro t hL; refine gor hL ?_))
    refine po_appA hL (hn := srows_one (l := [sColon])) srows_one ?_ ?_; (· (rw [len_srows, len_srows]; simp at hfl ⊢; omega)); clear hL; intro v2 t fv2 hL; obtain ⟨fv2_r, fv2_w, fv2_w1, fv2_c, fv2_s, fv2_d⟩ := id fv2
    rw [srows_app] at hL fv2 fv2_w
    refine gor hL ?_; (repeat (clear hL; intro t hL; refine gor hL ?_))
    refine po_cp (hC) ?_
    refine gor hL ?_; (repeat (clear hL; intro t hL; refine gor hL ?_))
    refine po_appA hL (hn := srows_one (l := Z)) srows_one ?_ ?_; (· (rw [len_srows, len_srows]; simp at hfl ⊢; omega)); clear hL; intro v3 t fv3 hL; obtain ⟨fv3_r, fv3_w, fv3_w1, fv3_c, fv3_s, fv3_d⟩ := id fv3
    rw [srows_app] at hL fv3 fv3_w
    refine gor hL ?_; (repeat (clear hL; intro t hL; refine gor hL ?_))
    rw [show kChoice :: sOpen :: (X ++ C) ++ [nm] ++ [sColon] ++ Z = kChoice :: sOpen :: (X ++ (C ++ nm :: sColon :: Z)) by simp] at hL
    exact ⟨v3, hL.pk, tr2⟩
theorem typeC_7 (n : List ByteArray)  (hl : (kEnum :: sOpen :: (fldPre (n.map fun s => (s, ([] : List ByteArray))) ++ [sClose])).length < 2 ^ 40) :
    Pure (PCalls Tryd.prog GK) 26 [(KT.mk 7 0 n ([] : List KT)).av] (.d (strs (kEnum :: sOpen :: (fldPre (n.map fun s => (s, ([] : List ByteArray))) ++ [sClose])))) := by
  rw [KT.av_mk]
  have hFk : ∀ k (hk : k < n.length), (n.map fun s => (s, ([] : List ByteArray)))[k]? = some (n[k], []) := by
    intro k hk
    rw [List.getElem?_map, List.getElem?_eq_getElem hk]; rfl
  have hFl : (n.map fun s => (s, ([] : List ByteArray))).length = n.length := by simp
  generalize (n.map fun s => (s, ([] : List ByteArray))) = F at *
  have hnl : n.length < 2 ^ 40 := by
    have := fldPre_len F
    simp at hl; omega
  intro st; refine pcalls_of k26 e26 (of_decide_eq_true rfl) ?_; dsimp only [c26]; refine pstartL ?_; intro t hL; generalize hQ : pfin _ _ = Q
  (refine gor hL ?_; (repeat (clear hL; intro t hL; refine gor hL ?_))); refine po_boxA hL ?_; clear hL; intro p1 t hL
  refine gor hL ?_; (repeat (clear hL; intro t hL; refine gor hL ?_)); (repeat (refine pseqk ?_; refine gor hL ?_; (repeat (clear hL; intro t hL; refine gor hL ?_))))
  refine po_mkmapL hL ?_
  clear hL; intro mb t hL
  refine gor hL ?_; (repeat (clear hL; intro t hL; refine gor hL ?_))
  refine po_minsL (es' := [(.d (.int .u8 6), .d (.str kRecord))]) hL ?_
  clear hL; intro t hL
  refine gor hL ?_; (repeat (clear hL; intro t hL; refine gor hL ?_))
  refine po_minsL (es' := [(.d (.int .u8 6), .d (.str kRecord)), (.d (.int .u8 8), .d (.str kChoice))]) hL ?_
  clear hL; intro t hL
  refine gor hL ?_; (repeat (clear hL; intro t hL; refine gor hL ?_))
  refine po_minsL (es' := [(.d (.int .u8 6), .d (.str kRecord)), (.d (.int .u8 8), .d (.str kChoice)), (.d (.int .u8 7), .d (.str kEnum))]) hL ?_
  clear hL; intro t hL
  refine gor hL ?_; (repeat (clear hL; intro t hL; refine gor hL ?_))
  refine po_mgetL (o := some (.d (.str kEnum))) hL ?_ rfl
  refine gor hL ?_; (repeat (clear hL; intro t hL; refine gor hL ?_)); (repeat (refine pseqk ?_; refine gor hL ?_; (repeat (clear hL; intro t hL; refine gor hL ?_))))
  replace hL := hL.full (srows [kEnum, sOpen]) 1
  (apply prangeA (n.length) (by omega) (fun (v : AV) z => put z (some 3) v) (fun k v t => Lay st [.box p1 [.d (.int .u8 7), .d (.int .i64 0), .d (.sl (srows n)), .d (.sl (([] : List KT).map KT.row))], .vec v (srows (kEnum :: sOpen :: fldPre (F.take k))) 1] t) ((.full (srows [kEnum, sOpen])))); (· exact trimA); (· exact fun _ _ => rfl)
  · exact hL.pk
  · intro v t hL
    rw [List.take_of_length_le (by omega)] at hL
    have fv := hL.vk v
    obtain ⟨fv_r, fv_w, fv_w1, fv_c, fv_s, fv_d⟩ := id fv
    refine gor hL ?_; (repeat (clear hL; intro t hL; refine gor hL ?_))
    refine po_appA hL (hn := srows_one (l := [sClose])) srows_one ?_ ?_; (· (rw [len_srows, len_srows]; simp at hl ⊢; omega)); clear hL; intro v' t fv' hL; obtain ⟨fv'_r, fv'_w, fv'_w1, fv'_c, fv'_s, fv'_d⟩ := id fv'
    rw [srows_app] at hL fv' fv'_w
    refine gor hL ?_; (repeat (clear hL; intro t hL; refine gor hL ?_))
    rw [← hQ]
    exact pfin_weak (u := v') rfl fv'_w hL.le
  · intro k hk v t hL
    have hnk : n[k]? = some n[k] := List.getElem?_eq_getElem hk
    have fv := hL.vk v
    obtain ⟨fv_r, fv_w, fv_w1, fv_c, fv_s, fv_d⟩ := id fv
    have hpre := fldPre_snoc (F.take k) (n[k], [])
    rw [← take_snoc (hFk k hk)] at hpre
    have hfl := fldPre_take F (k + 1)
    rw [hpre] at hfl ⊢
    have hF0 : F.take k = [] ↔ k = 0 := by
      rw [List.take_eq_nil_iff]
      exact ⟨fun h => h.resolve_right (fun e => by rw [e] at hFl; simp at hFl; omega), .inl⟩
    have e1 : (if F.take k = [] then ([] : List ByteArray) else [sComma]) = if k = 0 then [] else [sComma] := by
      by_cases h0 : k = 0
      · rw [if_pos h0, if_pos (hF0.2 h0)]
      · rw [if_neg h0, if_neg (fun e => h0 (hF0.1 e))]
    rw [e1] at hfl ⊢
    generalize fldPre (F.take k) = X at *
    generalize fldPre F = Y at *
    simp only [List.length_cons, List.length_append, List.length_nil] at hl hfl
    
    
    generalize n[k] = nm at *
    
    
    
    refine pblock ?_
    refine gor hL ?_; (repeat (clear hL; intro t hL; refine gor hL ?_))
    refine pjoinC (fun s' u => ∃ w, s' = put (put (put (put (put (put (put (fun _ => .undef) (some 46) (i64 k)) (some 45) (i64 n.length)) (some 44) (.d (.sl (srows n)))) (some 5) (.d (.str nm))) (some 4) (i64 k)) (some 3) w) (some 1) (ptrAt p1) ∧ Lay st [.box p1 [.d (.int .u8 7), .d (.int .i64 0), .d (.sl (srows n)), .d (.sl (([] : List KT).map KT.row))], .vec w (srows (kEnum :: sOpen :: (X ++ if k = 0 then [] else [sComma]))) 1] u) ?_ ?_
    · refine gor hL ?_; (repeat (clear hL; intro t hL; refine gor hL ?_))
      by_cases h0 : k = 0
      · refine gnm ?_; rw [decide_eq_false (show ¬ (k : Int) > 0 by omega)]
        refine gor hL ?_; (repeat (clear hL; intro t hL; refine gor hL ?_))
        rw [if_pos h0, List.append_nil]
        exact ⟨v, (by first | exact trimA | simp +decide only [pvc, pvi, pvt]), hL.pk⟩
      · refine gnm ?_; rw [decide_eq_true (show (k : Int) > 0 by omega)]
        refine gor hL ?_; (repeat (clear hL; intro t hL; refine gor hL ?_))
        refine po_appA hL (hn := srows_one (l := [sComma])) srows_one ?_ ?_; (· (rw [len_srows, len_srows]; simp; omega)); clear hL; intro v' t fv' hL; obtain ⟨fv'_r, fv'_w, fv'_w1, fv'_c, fv'_s, fv'_d⟩ := id fv'
        rw [srows_app] at hL fv' fv'_w
        refine gor hL ?_; (repeat (clear hL; intro t hL; refine gor hL ?_))
        rw [if_neg h0]
        exact ⟨v', (by first | exact trimA | simp +decide only [pvc, pvi, pvt]), hL.pk⟩
    clear hL fv fv_r fv_w fv_w1 fv_c fv_s fv_d v
    rintro s' u ⟨v, rfl, hL⟩
    generalize (if k = 0 then ([] : List ByteArray) else [sComma]) = C at *
    have fv := hL.vk v
    obtain ⟨fv_r, fv_w, fv_w1, fv_c, fv_s, fv_d⟩ := id fv
    refine gor hL ?_; (repeat (clear hL; intro t hL; refine gor hL ?_))
    refine po_appA hL (hn := srows_one (l := [nm])) srows_one ?_ ?_; (· (rw [len_srows, len_srows]; simp at hfl ⊢; omega)); clear hL; intro v1 t fv1 hL; obtain ⟨fv1_r, fv1_w, fv1_w1, fv1_c, fv1_s, fv1_d⟩ := id fv1
    rw [srows_app] at hL fv1 fv1_w
    refine gor hL ?_; (repeat (clear hL; intro t hL; refine gor hL ?_))
    rw [show kEnum :: sOpen :: (X ++ C) ++ [nm] = kEnum :: sOpen :: (X ++ (C ++ [nm])) by simp] at hL
    exact ⟨v1, hL.pk, tr2⟩
theorem toksL_tx (n : List ByteArray) (o : List KT) : TX (fldToks (n.zip ((KT.toksL o).map fun t => ((3, sColon) :: t : List Tk)))) = fldPre (n.zip (o.map fun t => sColon :: TX t.toks)) := by
  rw [fldToks_tx, zip_eq, List.map_map]
  congr 1
  rw [List.zip_map_right]
  rfl
/-- A type's texts. -/
theorem C26 {d : Nat} {t : KT} (h : PT d t) : t.toks.length < 2 ^ 40 → Pure (PCalls Tryd.prog GK) 26 [t.av] (.d (strs (TX t.toks))) := by
  induction h with
  | base d k hk =>
    intro _
    have := typeC_base k hk
    rw [KT.toks, if_neg (by omega), if_neg (by omega), if_neg (by omega), if_neg (by omega), if_neg (by omega), if_neg (by omega)]
    exact this
  | text d m hm => intro _; exact typeC_text m hm
  | seq d m o hm ho ih =>
    intro hl
    have hl' := hl
    rw [KT.toks, if_neg (by decide), if_pos rfl] at hl'
    simp only [KT.toksL, List.headD_cons, List.length_append] at hl'
    exact typeC_seq m hm o (by omega) (ih (by omega))
  | reco d k n o hk hl hn0 hn ho ih =>
    intro hlen
    have part : ∀ t ∈ o, t.toks.length ≤ (fldToks (n.zip ((KT.toksL o).map fun t => ((3, sColon) :: t : List Tk)))).length := by
      intro t ht
      rw [zip_eq]
      obtain ⟨i, hi, rfl⟩ := List.getElem_of_mem ht
      have : (n[i]'(by omega), o[i]) ∈ n.zip o := by
        rw [List.mem_iff_getElem?]
        exact ⟨i, by rw [List.getElem?_zip_eq_some]; exact ⟨List.getElem?_eq_getElem (by omega), List.getElem?_eq_getElem hi⟩⟩
      have hm : (n[i]'(by omega), ((3, sColon) :: o[i].toks : List Tk)) ∈ (n.zip o).map fun x => (x.1, ((3, sColon) :: x.2.toks : List Tk)) := List.mem_map.2 ⟨_, this, rfl⟩
      exact Nat.le_trans (Nat.le_succ _) (fldToks_part hm)
    rcases hk with rfl | rfl
    · rw [KT.toks, if_neg (by decide), if_neg (by decide), if_pos rfl] at hlen ⊢
      simp only [List.length_cons, List.length_append, List.length_nil] at hlen
      have e : TX ((1, kRecord) :: (3, sOpen) :: (fldToks (n.zip ((KT.toksL o).map fun t => ((3, sColon) :: t : List Tk))) ++ [(3, sClose)])) = kRecord :: sOpen :: (fldPre (n.zip (o.map fun t => sColon :: TX t.toks)) ++ [sClose]) := by
        rw [← toksL_tx]; simp
      rw [e]
      refine typeC_6 n o hl (fun t ht => ih t ht (by have := part t ht; omega)) ?_
      rw [← e, List.length_map]; simp only [List.length_cons, List.length_append, List.length_nil]; omega
    · rw [KT.toks, if_neg (by decide), if_neg (by decide), if_neg (by decide), if_pos rfl] at hlen ⊢
      simp only [List.length_cons, List.length_append, List.length_nil] at hlen
      have e : TX ((1, kChoice) :: (3, sOpen) :: (fldToks (n.zip ((KT.toksL o).map fun t => ((3, sColon) :: t : List Tk))) ++ [(3, sClose)])) = kChoice :: sOpen :: (fldPre (n.zip (o.map fun t => sColon :: TX t.toks)) ++ [sClose]) := by
        rw [← toksL_tx]; simp
      rw [e]
      refine typeC_8 n o hl (fun t ht => ih t ht (by have := part t ht; omega)) ?_
      rw [← e, List.length_map]; simp only [List.length_cons, List.length_append, List.length_nil]; omega
  | enum d n hn0 hn =>
    intro hlen
    rw [KT.toks, if_neg (by decide), if_neg (by decide), if_neg (by decide), if_neg (by decide), if_pos rfl] at hlen ⊢
    simp only [List.length_cons, List.length_append, List.length_nil] at hlen
    have e : TX ((1, kEnum) :: (3, sOpen) :: (fldToks (n.map fun s => (s, ([] : List Tk))) ++ [(3, sClose)])) = kEnum :: sOpen :: (fldPre (n.map fun s => (s, ([] : List ByteArray))) ++ [sClose]) := by
      have := fldToks_tx (n.map fun s => (s, ([] : List Tk)))
      rw [List.map_map] at this
      rw [show (fun s => (s, ([] : List ByteArray))) = ((fun x : ByteArray × List Tk => (x.1, TX x.2)) ∘ fun s => (s, ([] : List Tk))) from rfl, ← this]; simp
    rw [e]
    refine typeC_7 n ?_
    rw [← e, List.length_map]; simp only [List.length_cons, List.length_append, List.length_nil]; omega
  | ref d x hx =>
    intro _
    rw [KT.toks, if_neg (by decide), if_neg (by decide), if_neg (by decide), if_neg (by decide), if_neg (by decide), if_pos rfl]
    exact typeC_ref x
end Go.Pv
