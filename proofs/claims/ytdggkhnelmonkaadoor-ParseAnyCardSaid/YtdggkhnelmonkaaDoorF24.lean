/- Functions of the program, by value. No condition. -/
import Derived.Test.YtdggkhnelmonkaaDoorF18
import Derived.Test.YtdggkhnelmonkaaDoorF21
namespace Go.Pv
open Go.Proofs
set_option maxRecDepth 100000
set_option maxHeartbeats 8000000
/-- prompter/prompterlaw06.Awake -/
abbrev c13_1 : PCode :=
 (.keep [1, 3] (.seq (.region [⟨(.some 9), (.mov (.t 3)), .none⟩,
   ⟨(.some 10), (.bin .eql (.t 9) (.c (.d (.int .i64 0)))), .none⟩,
   ⟨(.some 11), (.mov (.t 10)), .none⟩,
   ⟨(.some 12), (.faddr 0 (.t 1)), (.some (11, .true))⟩,
   ⟨(.some 13), (.load .false 1 (.t 12) .false), (.some (11, .true))⟩,
   ⟨(.some 14), (.bin .eql (.t 13) (.c (.d (.str (bs [97]))))), (.some (11, .true))⟩,
   ⟨(.some 15), (.pick (.t 11) (.t 14) (.c (.d (.bool .false)))), .none⟩,
   ⟨(.some 16), (.mov (.t 15)), .none⟩,
   ⟨(.some 17), (.faddr 1 (.t 1)), (.some (16, .true))⟩,
   ⟨(.some 18), (.load .false 1 (.t 17) .false), (.some (16, .true))⟩,
   ⟨(.some 19), (.bin .eql (.t 18) (.c (.d (.int .i64 1)))), (.some (16, .true))⟩,
   ⟨(.some 20), (.pick (.t 16) (.t 19) (.c (.d (.bool .false)))), .none⟩,
   ⟨(.some 21), (.mov (.t 20)), .none⟩,
   ⟨(.some 22), (.faddr 2 (.t 1)), (.some (21, .true))⟩,
   ⟨(.some 23), (.load .false 1 (.t 22) .false), (.some (21, .true))⟩,
   ⟨(.some 24), (.bin .eql (.t 23) (.c (.d (.int .i64 2)))), (.some (21, .true))⟩,
   ⟨(.some 25), (.pick (.t 21) (.t 24) (.c (.d (.bool .false)))), .none⟩,
   ⟨(.some 0), (.mov (.t 25)), .none⟩])
 .ret))
abbrev c13_0 : PCode :=
 (.seq (.region [⟨(.some 5), (.call0 19 [(.c (.d (.str (bs [112, 114, 111, 103, 114, 97, 109, 32, 97, 32, 49, 32, 118, 101, 114, 115, 105, 111, 110, 32, 50, 32, 123, 32, 125]))))]), .none⟩,
   ⟨(.some 4), (.mov (.t 5)), .none⟩,
   ⟨(.some 6), (.ext (.t 4) 0), .none⟩,
   ⟨(.some 7), (.ext (.t 4) 1), .none⟩,
   ⟨(.some 8), (.ext (.t 4) 2), .none⟩,
   ⟨(.some 1), (.alloc [(.d (.str (bs []))), (.d (.int .i64 0)), (.d (.int .i64 0)), (.full []), (.full []), (.full [])]), .none⟩,
   ⟨.none, (.store 6 (.t 1) (.t 6)), .none⟩,
   ⟨(.some 2), (.mov (.t 7)), .none⟩,
   ⟨(.some 3), (.mov (.t 8)), .none⟩])
 c13_1)
def c13 : PFun := ⟨
 (.seq (.region [⟨(.some 0), (.mov (.c (.d (.bool .false)))), .none⟩])
 c13_0),
 0, 26, [(.tmp 0)]⟩

/-- prompter/prompterlaw06.ParseDeep -/
abbrev c4_2 : PCode :=
 (.seq (.region [⟨(.some 4), (.mov (.c (.d (.bool .false)))), .none⟩])
 .ret)
abbrev c4_1 : PCode :=
 (.cond (.t 14)
  c4_2
  .skip)
abbrev c4_11 : PCode :=
 (.region [⟨(.some 28), (.mov (.t 1)), .none⟩,
   ⟨(.some 29), (.mov (.t 8)), .none⟩,
   ⟨(.some 30), (.iaddr 1 (.t 28) (.t 29)), .none⟩,
   ⟨(.some 31), (.load .false 1 (.t 30) .false), .none⟩,
   ⟨(.some 9), (.mov (.t 31)), .none⟩])
abbrev c4_10 : PCode :=
 (.cond (.t 27)
  c4_11
  .skip)
abbrev c4_15 : PCode :=
 (.region [⟨(.some 40), (.mov (.t 6)), .none⟩,
   ⟨(.some 41), (.bin .add (.t 40) (.c (.d (.str (bs [115, 101, 113, 91, 50, 93, 32, 111, 102, 32]))))), .none⟩,
   ⟨(.some 6), (.mov (.t 41)), .none⟩])
abbrev c4_18 : PCode :=
 (.region [⟨(.some 44), (.mov (.t 6)), .none⟩,
   ⟨(.some 45), (.bin .add (.t 44) (.c (.d (.str (bs [114, 101, 99, 111, 114, 100, 32, 123, 32, 97, 58, 32]))))), .none⟩,
   ⟨(.some 46), (.mov (.t 7)), .none⟩,
   ⟨(.some 47), (.bin .add (.c (.d (.str (bs [32, 125])))) (.t 46)), .none⟩,
   ⟨(.some 6), (.mov (.t 45)), .none⟩,
   ⟨(.some 7), (.mov (.t 47)), .none⟩])
abbrev c4_19 : PCode :=
 (.region [⟨(.some 34), (.mov (.t 6)), .none⟩,
   ⟨(.some 35), (.bin .add (.t 34) (.c (.d (.str (bs [99, 104, 111, 105, 99, 101, 32, 123, 32, 97, 58, 32]))))), .none⟩,
   ⟨(.some 36), (.mov (.t 7)), .none⟩,
   ⟨(.some 37), (.bin .add (.c (.d (.str (bs [32, 125])))) (.t 36)), .none⟩,
   ⟨(.some 6), (.mov (.t 35)), .none⟩,
   ⟨(.some 7), (.mov (.t 37)), .none⟩])
abbrev c4_17 : PCode :=
 (.cond (.t 42)
  c4_18
  c4_19)
abbrev c4_16 : PCode :=
 (.seq (.region [⟨(.some 43), (.bin .eql (.t 33) (.c (.d (.int .u8 1)))), .none⟩,
   ⟨(.some 42), (.mov (.t 43)), .none⟩])
 c4_17)
abbrev c4_14 : PCode :=
 (.cond (.t 38)
  c4_15
  c4_16)
abbrev c4_13 : PCode :=
 (.block 2 (.seq (.region [⟨(.some 39), (.bin .eql (.t 33) (.c (.d (.int .u8 0)))), .none⟩,
   ⟨(.some 38), (.mov (.t 39)), .none⟩])
 c4_14))
abbrev c4_12 : PCode :=
 (.keep [1, 5, 6, 7, 9, 18, 19] (.seq (.region [⟨(.some 32), (.mov (.t 9)), .none⟩,
   ⟨(.some 33), (.bin .rem (.t 32) (.c (.d (.int .u8 3)))), .none⟩])
 c4_13))
abbrev c4_9 : PCode :=
 (.keep [1, 5, 6, 7, 8, 9, 18, 19] (.seq (.seq (.region [⟨(.some 24), (.mov (.t 8)), .none⟩,
   ⟨(.some 25), (.mov (.t 1)), .none⟩,
   ⟨(.some 26), (.len (.t 25)), .none⟩,
   ⟨(.some 27), (.bin .lss (.t 24) (.t 26)), .none⟩])
 c4_10)
 c4_12))
abbrev c4_8 : PCode :=
 (.seq (.region [⟨(.some 22), (.mov (.t 8)), .none⟩,
   ⟨(.some 23), (.cvt .u8 (.t 22)), .none⟩,
   ⟨(.some 9), (.mov (.t 23)), .none⟩])
 c4_9)
abbrev c4_7 : PCode :=
 (.block 1 (.seq (.region [⟨(.some 21), (.mov (.t 19)), .none⟩,
   ⟨(.some 8), (.mov (.t 21)), .none⟩])
 c4_8))
abbrev c4_6 : PCode :=
 (.block 0 (.loop (.some [19, 6, 7, 1, 5, 18]) (.seq (.region [⟨(.some 20), (.bin .lss (.t 19) (.t 18)), .none⟩])
 (.seq (.cond (.t 20)
  .skip
  (.exit 0))
 (.seq c4_7
 (.region [⟨(.some 48), (.bin .add (.t 19) (.c (.d (.int .i64 1)))), .none⟩,
   ⟨(.some 19), (.mov (.t 48)), .none⟩]))))))
abbrev c4_23 : PCode :=
 (.seq (.region [⟨(.some 62), (.mov (.t 12)), .none⟩,
   ⟨(.some 63), (.bin .eql (.t 62) (.c (.d (.int .i64 5)))), .none⟩,
   ⟨(.some 64), (.mov (.t 63)), .none⟩,
   ⟨(.some 65), (.mov (.t 11)), (.some (64, .true))⟩,
   ⟨(.some 66), (.bin .gtr (.t 65) (.c (.d (.int .i64 0)))), (.some (64, .true))⟩,
   ⟨(.some 67), (.pick (.t 64) (.t 66) (.c (.d (.bool .false)))), .none⟩,
   ⟨(.some 68), (.mov (.t 67)), .none⟩,
   ⟨(.some 69), (.faddr 3 (.t 10)), (.some (68, .true))⟩,
   ⟨(.some 70), (.load .false 1 (.t 69) .false), (.some (68, .true))⟩,
   ⟨(.some 71), (.len (.t 70)), (.some (68, .true))⟩,
   ⟨(.some 72), (.bin .eql (.t 71) (.c (.d (.int .i64 0)))), (.some (68, .true))⟩,
   ⟨(.some 73), (.pick (.t 68) (.t 72) (.c (.d (.bool .false)))), .none⟩,
   ⟨(.some 4), (.mov (.t 73)), .none⟩])
 .ret)
abbrev c4_22 : PCode :=
 (.cond (.t 61)
  c4_23
  .skip)
abbrev c4_24 : PCode :=
 (.keep [10, 12] (.seq (.region [⟨(.some 74), (.mov (.t 12)), .none⟩,
   ⟨(.some 75), (.bin .eql (.t 74) (.c (.d (.int .i64 0)))), .none⟩,
   ⟨(.some 76), (.mov (.t 75)), .none⟩,
   ⟨(.some 77), (.faddr 3 (.t 10)), (.some (76, .true))⟩,
   ⟨(.some 78), (.load .false 1 (.t 77) .false), (.some (76, .true))⟩,
   ⟨(.some 79), (.len (.t 78)), (.some (76, .true))⟩,
   ⟨(.some 80), (.bin .eql (.t 79) (.c (.d (.int .i64 1)))), (.some (76, .true))⟩,
   ⟨(.some 81), (.pick (.t 76) (.t 80) (.c (.d (.bool .false)))), .none⟩,
   ⟨(.some 4), (.mov (.t 81)), .none⟩])
 .ret))
abbrev c4_21 : PCode :=
 (.keep [5, 10, 11, 12] (.seq (.seq (.region [⟨(.some 60), (.mov (.t 5)), .none⟩,
   ⟨(.some 61), (.bin .gtr (.t 60) (.c (.d (.int .i64 4)))), .none⟩])
 c4_22)
 c4_24))
abbrev c4_20 : PCode :=
 (.seq (.region [⟨(.some 50), (.mov (.t 6)), .none⟩,
   ⟨(.some 51), (.bin .add (.c (.d (.str (bs [112, 114, 111, 103, 114, 97, 109, 32, 97, 32, 49, 32, 118, 101, 114, 115, 105, 111, 110, 32, 50, 32, 123, 32, 116, 121, 112, 101, 32, 120, 32, 61, 32])))) (.t 50)), .none⟩,
   ⟨(.some 52), (.bin .add (.t 51) (.c (.d (.str (bs [98, 111, 111, 108]))))), .none⟩,
   ⟨(.some 53), (.mov (.t 7)), .none⟩,
   ⟨(.some 54), (.bin .add (.t 52) (.t 53)), .none⟩,
   ⟨(.some 55), (.bin .add (.t 54) (.c (.d (.str (bs [59, 32, 125]))))), .none⟩,
   ⟨(.some 56), (.call0 19 [(.t 55)]), .none⟩,
   ⟨(.some 49), (.mov (.t 56)), .none⟩,
   ⟨(.some 57), (.ext (.t 49) 0), .none⟩,
   ⟨(.some 58), (.ext (.t 49) 1), .none⟩,
   ⟨(.some 59), (.ext (.t 49) 2), .none⟩,
   ⟨(.some 10), (.alloc [(.d (.str (bs []))), (.d (.int .i64 0)), (.d (.int .i64 0)), (.full []), (.full []), (.full [])]), .none⟩,
   ⟨.none, (.store 6 (.t 10) (.t 57)), .none⟩,
   ⟨(.some 11), (.mov (.t 58)), .none⟩,
   ⟨(.some 12), (.mov (.t 59)), .none⟩])
 c4_21)
abbrev c4_5 : PCode :=
 (.seq (.seq (.region [⟨(.some 18), (.mov (.t 5)), .none⟩,
   ⟨(.some 19), (.mov (.c (.d (.int .i64 0)))), .none⟩])
 c4_6)
 c4_20)
abbrev c4_4 : PCode :=
 (.keep [1, 5] (.seq (.region [⟨(.some 6), (.mov (.c (.d (.str (bs []))))), .none⟩,
   ⟨(.some 7), (.mov (.c (.d (.str (bs []))))), .none⟩])
 c4_5))
abbrev c4_3 : PCode :=
 (.keep [0, 1] (.seq (.region [⟨(.some 15), (.mov (.t 0)), .none⟩,
   ⟨(.some 16), (.bin .rem (.t 15) (.c (.d (.int .u8 9)))), .none⟩,
   ⟨(.some 17), (.cvt .i64 (.t 16)), .none⟩,
   ⟨(.some 5), (.mov (.t 17)), .none⟩])
 c4_4))
abbrev c4_0 : PCode :=
 (.seq (.seq (.region [⟨(.some 13), (.call0 13 []), .none⟩,
   ⟨(.some 14), (.not (.t 13)), .none⟩])
 c4_1)
 c4_3)
def c4 : PFun := ⟨
 (.seq (.region [⟨(.some 4), (.mov (.c (.d (.bool .false)))), .none⟩])
 c4_0),
 2, 82, [(.tmp 4)]⟩

theorem e13 : entered Tryd.prog 13 = true := by kernel_rfl
theorem k13 : compFun Tryd.prog (fun _ => 0) 13 = some c13.er := by kernel_rfl
theorem e4 : entered Tryd.prog 4 = true := by kernel_rfl
theorem k4 : compFun Tryd.prog (fun _ => 0) 4 = some c4.er := by kernel_rfl

abbrev awakeTx : ByteArray := bs [112, 114, 111, 103, 114, 97, 109, 32, 97, 32, 49, 32, 118, 101, 114, 115, 105, 111, 110, 32, 50, 32, 123, 32, 125]
def awakeI : List It := [⟨[], 1, kProgram⟩, ⟨sp, 1, aN⟩, ⟨sp, 2, bs [49]⟩, ⟨sp, 1, kVersion⟩, ⟨sp, 2, two⟩, ⟨sp, 3, sOpen⟩, ⟨sp, 3, sClose⟩]
def awakeTB : TB := ⟨aN, 1, 2, [], [], []⟩
theorem awake_read : parseM awakeTx = (awakeTB, 0, 0) := by
  have hp : PTB awakeTB := ⟨aN_name, ⟨by show (0 : Int) ≤ 1; decide, by show (1 : Int) < _; decide⟩, ⟨by show (0 : Int) ≤ 2; decide, by show (2 : Int) < _; decide⟩, fun _ h => (by cases h), fun _ h => (by cases h), fun _ h => (by cases h)⟩
  have h2 : isName aN = true := aN_name
  rw [parse_items (items := awakeI) (tail := []) (t := awakeTB) (by decide +kernel) .nil (okB_ok (hd := true) (by decide +kernel) fun _ => sepL_nil) (by decide +kernel) hp (by simp [awakeI, awakeTB, tks, TB.toks, numX_one, numX_two]), if_neg]
  simp [TB.check, awakeTB, typesE, faultsE, procsE, h2, inNum]
theorem C13 : Pure (PCalls Tryd.prog GK) 13 [] (b2 true) := by
  have hc := C19 awakeTx (by decide +kernel)
  rw [awake_read] at hc
  simp only [parseA, TB.av, awakeTB, List.map_nil] at hc
  intro st; refine pcalls_of k13 e13 (of_decide_eq_true rfl) ?_; dsimp only [c13]; refine pstartL ?_; intro t hL; generalize hQ : pfin _ _ = Q
  refine gor hL ?_; (repeat (clear hL; intro t hL; refine gor hL ?_))
  refine po_c0 (hc) ?_
  refine gor hL ?_; (repeat (clear hL; intro t hL; refine gor hL ?_))
  (refine gor hL ?_; (repeat (clear hL; intro t hL; refine gor hL ?_))); (with_reducible refine po_allocL hL rfl ?_); clear hL; intro p1 t hL
  refine gor hL ?_; (repeat (clear hL; intro t hL; refine gor hL ?_))
  rw [show (aN.toList == (bs [97]).toList) = true from beq_self_eq_true _]
  rw [← hQ]
  exact pfin_pure rfl hL.le
def kindAt (l : List Int) (i : Nat) : Int := if i < l.length then l.getD i 0 else IntKind.u8.wrap i
def ksM (l : List Int) (n : Nat) : List Nat := (List.range n).map fun i => (kindAt l i % 3).toNat
theorem ksM_len (l : List Int) (n : Nat) : (ksM l n).length = n := by simp [ksM]
theorem ksM_succ (l : List Int) (n : Nat) : ksM l (n + 1) = ksM l n ++ [(kindAt l n % 3).toNat] := by simp [ksM, List.range_succ]
theorem aheadM_snoc : ∀ (ks : List Nat) (c : Nat) (a : ByteArray), aheadM (ks ++ [c]) a = aheadM ks a ++ pieceD c
  | [], _, _ => rfl
  | d :: ks, c, a => by rw [List.cons_append, aheadM, aheadM, aheadM_snoc]
theorem behindM_snoc : ∀ (ks : List Nat) (c : Nat) (b : ByteArray), behindM (ks ++ [c]) b = if c = 0 then behindM ks b else bs [32, 125] ++ behindM ks b
  | [], _, _ => rfl
  | d :: ks, c, b => by rw [List.cons_append, behindM, behindM, behindM_snoc]
theorem pieceD_size (c : Nat) : (pieceD c).size ≤ 12 := by
  unfold pieceD
  split
  · decide
  split <;> decide
theorem aheadM_size : ∀ (ks : List Nat) (a : ByteArray), (aheadM ks a).size ≤ a.size + 12 * ks.length
  | [], _ => Nat.le_refl _
  | c :: ks, a => by
    have := aheadM_size ks (a ++ pieceD c); have := pieceD_size c
    rw [ByteArray.size_append] at *
    rw [aheadM, List.length_cons]; omega
theorem behindM_size : ∀ (ks : List Nat) (b : ByteArray), (behindM ks b).size ≤ b.size + 2 * ks.length
  | [], _ => Nat.le_refl _
  | c :: ks, b => by
    rw [behindM, List.length_cons]
    split
    · have := behindM_size ks b; omega
    · have := behindM_size ks (bs [32, 125] ++ b)
      rw [ByteArray.size_append, show (bs [32, 125]).size = 2 from rfl] at this; omega
theorem C4 (many : Int) (hm : 0 ≤ many ∧ many ≤ 255) (l : List Int) (hb : ∀ x ∈ l, 0 ≤ x ∧ x ≤ 255) : Pure (PCalls Tryd.prog GK) 4 [.d (.int .u8 many), .d (.sl (l.map fun n => [.int .u8 n]))] (b2 true) := by
  intro st; refine pcalls_of k4 e4 (of_decide_eq_true rfl) ?_; dsimp only [c4]; refine pstartL ?_; intro t hL; generalize hQ : pfin _ _ = Q
  refine gor hL ?_; (repeat (clear hL; intro t hL; refine gor hL ?_))
  refine po_c0 (C13) ?_
  refine gor hL ?_; (repeat (clear hL; intro t hL; refine gor hL ?_))
  obtain ⟨n, hn, hn9⟩ : ∃ n : Nat, IntKind.i64.wrap (many.tmod 9) = (n : Int) ∧ n ≤ 8 := by
    have h1 : many.tmod 9 = many % 9 := Int.tmod_eq_emod_of_nonneg hm.1
    refine ⟨(many % 9).toNat, ?_, by omega⟩
    rw [h1, IntWalk.i64_in _ (by omega)]; omega
  refine gnm ?_; rw [hn]
  (apply prangeA (n) (by omega) (fun (p : ByteArray × ByteArray) z => put (put z (some 7) (.d (.str p.2))) (some 6) (.d (.str p.1))) (fun k p t => p = (aheadM (ksM l k) (bs []), behindM (ksM l k) (bs [])) ∧ Lay st [] t) ((bs [], bs []))); (· exact trimA); (· exact fun _ _ => rfl)
  · exact ⟨rfl, hL⟩
  · rintro ⟨a, b⟩ t ⟨e, hL⟩
    cases e
    have ha := aheadM_size (ksM l n) (bs [])
    have hb' := behindM_size (ksM l n) (bs [])
    have hd := deep_read (ksM l n)
    rw [ksM_len] at ha hb' hd
    have s0 : (bs []).size = 0 := rfl
    generalize aheadM (ksM l n) (bs []) = A at *
    generalize behindM (ksM l n) (bs []) = B at *
    have z1 : (bs [112, 114, 111, 103, 114, 97, 109, 32, 97, 32, 49, 32, 118, 101, 114, 115, 105, 111, 110, 32, 50, 32, 123, 32, 116, 121, 112, 101, 32, 120, 32, 61, 32]).size = 33 := rfl
    have z2 : (bs [98, 111, 111, 108]).size = 4 := rfl
    have z3 : (bs [59, 32, 125]).size = 3 := rfl
    have hz : (deepTx A B).size ≤ 4000 := by
      simp only [deepTx, ByteArray.size_append, z1, z2, z3]; omega
    have hd := hd hz
    have hc := C19 (deepTx A B) (by omega)
    have h4 : decide ((n : Int) > 4) = decide (4 < n) := by
      rw [decide_eq_decide]; omega
    refine gor hL ?_; (repeat (clear hL; intro t hL; refine gor hL ?_))
    refine po rfl (str_add rfl rfl (by rw [z1]; omega)) ?_
    refine gor hL ?_; (repeat (clear hL; intro t hL; refine gor hL ?_))
    refine po rfl (str_add rfl rfl (by rw [ByteArray.size_append, z1, z2]; omega)) ?_
    refine gor hL ?_; (repeat (clear hL; intro t hL; refine gor hL ?_))
    refine po rfl (str_add rfl rfl (by rw [ByteArray.size_append, ByteArray.size_append, z1, z2]; omega)) ?_
    refine gor hL ?_; (repeat (clear hL; intro t hL; refine gor hL ?_))
    refine po rfl (str_add rfl rfl (by rw [ByteArray.size_append, ByteArray.size_append, ByteArray.size_append, z1, z2, z3]; omega)) ?_
    by_cases hn4 : 4 < n
    · obtain ⟨p, hp, e⟩ := hd.2 hn4
      rw [e] at hc
      simp only [parseA, TB.av, TB.zero, List.map_nil] at hc
      refine gor hL ?_; (repeat (clear hL; intro t hL; refine gor hL ?_))
      refine po_c0 (hc) ?_
      refine gor hL ?_; (repeat (clear hL; intro t hL; refine gor hL ?_))
      (refine gor hL ?_; (repeat (clear hL; intro t hL; refine gor hL ?_))); (with_reducible refine po_allocL hL rfl ?_); clear hL; intro p1 t hL
      refine gor hL ?_; (repeat (clear hL; intro t hL; refine gor hL ?_))
      refine gnm ?_; rw [h4, decide_eq_true hn4]
      refine gor hL ?_; (repeat (clear hL; intro t hL; refine gor hL ?_))
      rw [decide_eq_true (show (p : Int) > 0 by omega)]
      rw [← hQ]
      exact pfin_pure rfl hL.le
    · have e := hd.1 (by omega)
      rw [e] at hc
      simp only [parseA, TB.av, deepTB, List.map_nil, List.map_cons] at hc
      refine gor hL ?_; (repeat (clear hL; intro t hL; refine gor hL ?_))
      refine po_c0 (hc) ?_
      refine gor hL ?_; (repeat (clear hL; intro t hL; refine gor hL ?_))
      (refine gor hL ?_; (repeat (clear hL; intro t hL; refine gor hL ?_))); (with_reducible refine po_allocL hL rfl ?_); clear hL; intro p1 t hL
      refine gor hL ?_; (repeat (clear hL; intro t hL; refine gor hL ?_))
      refine gnm ?_; rw [h4, decide_eq_false hn4]
      refine gor hL ?_; (repeat (clear hL; intro t hL; refine gor hL ?_))
      rw [← hQ]
      exact pfin_pure rfl hL.le
  · rintro k hk ⟨a, b⟩ t ⟨e, hL⟩
    cases e
    have ha := aheadM_size (ksM l k) (bs [])
    have hb' := behindM_size (ksM l k) (bs [])
    rw [ksM_len] at ha hb'
    have s0 : (bs []).size = 0 := rfl
    have hs := aheadM_snoc (ksM l k) ((kindAt l k % 3).toNat) (bs [])
    have hs' := behindM_snoc (ksM l k) ((kindAt l k % 3).toNat) (bs [])
    rw [← ksM_succ] at hs hs'
    generalize aheadM (ksM l (k + 1)) (bs []) = A' at *
    generalize behindM (ksM l (k + 1)) (bs []) = B' at *
    generalize aheadM (ksM l k) (bs []) = A at *
    generalize behindM (ksM l k) (bs []) = B at *
    refine pblock ?_
    refine gor hL ?_; (repeat (clear hL; intro t hL; refine gor hL ?_))
    refine pjoinC (fun s' u => s' = put (put (put (put (put (put (put (fun _ => .undef) (some 19) (i64 k)) (some 18) (i64 n)) (some 9) (.d (.int .u8 (kindAt l k)))) (some 7) (.d (.str B))) (some 6) (.d (.str A))) (some 5) (i64 n)) (some 1) (.d (.sl (l.map fun n => [.int .u8 n]))) ∧ Lay st [] u) ?_ ?_
    · by_cases hkl : k < l.length
      · obtain ⟨y, hy, hym⟩ := elem_at hkl
        have ek : kindAt l k = y := by rw [kindAt, if_pos hkl, List.getD_eq_getElem?_getD, hy]; rfl
        rw [ek]
        refine gor hL ?_; (repeat (clear hL; intro t hL; refine gor hL ?_))
        refine gnm ?_; rw [decide_eq_true (show (k : Int) < (l.length : Int) by omega)]
        refine gor hL ?_; (repeat (clear hL; intro t hL; refine gor hL ?_))
        exact ⟨(by first | exact trimA | simp +decide only [pvc, pvi, pvt]), hL⟩
      · have ek : kindAt l k = IntKind.u8.wrap k := by rw [kindAt, if_neg hkl]
        rw [ek]
        refine gor hL ?_; (repeat (clear hL; intro t hL; refine gor hL ?_))
        refine gnm ?_; rw [decide_eq_false (show ¬ (k : Int) < (l.length : Int) by omega)]
        refine gor hL ?_; (repeat (clear hL; intro t hL; refine gor hL ?_))
        exact ⟨(by first | exact trimA | simp +decide only [pvc, pvi, pvt]), hL⟩
    clear hL
    rintro s' u ⟨rfl, hL⟩
    have hy : 0 ≤ kindAt l k ∧ kindAt l k ≤ 255 := by
      unfold kindAt
      split
      · rename_i hkl
        rw [List.getD_eq_getElem?_getD, List.getElem?_eq_getElem hkl]
        exact hb _ (List.getElem_mem _)
      · have : IntKind.u8.wrap (k : Int) = (k : Int) % 256 := by simp [IntKind.wrap, IntKind.signed, IntKind.bits]
        rw [this]; omega
    generalize kindAt l k = y at *
    have hr : y.tmod 3 = y % 3 := Int.tmod_eq_emod_of_nonneg hy.1
    refine gor hL ?_; (repeat (clear hL; intro t hL; refine gor hL ?_))
    refine gnm ?_; rw [hr]
    refine gor hL ?_; (repeat (clear hL; intro t hL; refine gor hL ?_))
    have hc : y % 3 = 0 ∨ y % 3 = 1 ∨ y % 3 = 2 := by omega
    rcases hc with hc | hc | hc
    · rw [hc] at hs hs'
      have hs2 : A' = A ++ bs [115, 101, 113, 91, 50, 93, 32, 111, 102, 32] := hs
      have hs2' : B' = B := hs'
      subst hs2 hs2'
      refine gnm ?_; rw [hc]
      refine gor hL ?_; (repeat (clear hL; intro t hL; refine gor hL ?_))
      refine po rfl (str_add rfl rfl (by rw [show (bs [115, 101, 113, 91, 50, 93, 32, 111, 102, 32]).size = 10 from rfl]; omega)) ?_
      refine gor hL ?_; (repeat (clear hL; intro t hL; refine gor hL ?_))
      exact ⟨_, ⟨rfl, hL⟩, tr2⟩
    · rw [hc] at hs hs'
      have hs2 : A' = A ++ bs [114, 101, 99, 111, 114, 100, 32, 123, 32, 97, 58, 32] := hs
      have hs2' : B' = bs [32, 125] ++ B := hs'
      subst hs2 hs2'
      refine gnm ?_; rw [hc]
      refine gor hL ?_; (repeat (clear hL; intro t hL; refine gor hL ?_))
      refine po rfl (str_add rfl rfl (by rw [show (bs [114, 101, 99, 111, 114, 100, 32, 123, 32, 97, 58, 32]).size = 12 from rfl]; omega)) ?_
      refine gor hL ?_; (repeat (clear hL; intro t hL; refine gor hL ?_))
      refine po rfl (str_add rfl rfl (by rw [show (bs [32, 125]).size = 2 from rfl]; omega)) ?_
      refine gor hL ?_; (repeat (clear hL; intro t hL; refine gor hL ?_))
      exact ⟨_, ⟨rfl, hL⟩, tr2⟩
    · rw [hc] at hs hs'
      have hs2 : A' = A ++ bs [99, 104, 111, 105, 99, 101, 32, 123, 32, 97, 58, 32] := hs
      have hs2' : B' = bs [32, 125] ++ B := hs'
      subst hs2 hs2'
      refine gnm ?_; rw [hc]
      refine gor hL ?_; (repeat (clear hL; intro t hL; refine gor hL ?_))
      refine po rfl (str_add rfl rfl (by rw [show (bs [99, 104, 111, 105, 99, 101, 32, 123, 32, 97, 58, 32]).size = 12 from rfl]; omega)) ?_
      refine gor hL ?_; (repeat (clear hL; intro t hL; refine gor hL ?_))
      refine po rfl (str_add rfl rfl (by rw [show (bs [32, 125]).size = 2 from rfl]; omega)) ?_
      refine gor hL ?_; (repeat (clear hL; intro t hL; refine gor hL ?_))
      exact ⟨_, ⟨rfl, hL⟩, tr2⟩
end Go.Pv
