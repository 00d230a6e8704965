/- Functions of the program, by value. No condition. -/
import Derived.Test.YtdggkhnelmonkaaDoorF2
import Derived.Test.YtdggkhnelmonkaaDoorF3
import Derived.Test.YtdggkhnelmonkaaDoorK1
import Derived.Test.YtdggkhnelmonkaaDoorP32
namespace Go.Pv
open Go.Proofs
set_option maxRecDepth 100000
set_option maxHeartbeats 8000000

/-- (*prompter/parse.reader).fail -/
def c71 : PFun := ⟨
 (.die 123 [⟨(.some 4), (.mov (.t 0)), .none⟩,
   ⟨(.some 5), (.nilchk (.t 4)), .none⟩,
   ⟨(.some 6), (.faddr 0 (.t 5)), .none⟩,
   ⟨(.some 7), (.load .false 1 (.t 6) .false), .none⟩,
   ⟨(.some 8), (.mov (.t 0)), .none⟩,
   ⟨(.some 9), (.nilchk (.t 8)), .none⟩,
   ⟨(.some 10), (.faddr 1 (.t 9)), .none⟩,
   ⟨(.some 11), (.load .false 1 (.t 10) .false), .none⟩,
   ⟨(.some 12), (.iaddr 3 (.t 7) (.t 11)), .none⟩,
   ⟨(.some 13), (.faddr 1 (.t 12)), .none⟩,
   ⟨(.some 14), (.load .false 1 (.t 13) .false), .none⟩,
   ⟨(.some 15), (.mov (.t 1)), .none⟩,
   ⟨(.some 16), (.bld [(.d (.int .i64 0)), (.d (.int .i64 0))] [(0, (1, (.t 14))), (1, (1, (.t 15)))]), .none⟩,
   ⟨(.some 17), (.mki 92 (.t 16)), .none⟩] (.t 17)),
 2, 18, []⟩

theorem e71 : entered Tryd.prog 71 = true := by kernel_rfl
theorem k71 : compFun Tryd.prog (fun _ => 0) 71 = some c71.er := by kernel_rfl

/-- (*prompter/parse.reader).is -/
abbrev c77_0 : PCode :=
 (.seq (.region [⟨(.some 5), (.mov (.t 0)), .none⟩,
   ⟨(.some 6), (.nilchk (.t 5)), .none⟩,
   ⟨(.some 7), (.faddr 0 (.t 6)), .none⟩,
   ⟨(.some 8), (.load .false 1 (.t 7) .false), .none⟩,
   ⟨(.some 9), (.mov (.t 0)), .none⟩,
   ⟨(.some 10), (.nilchk (.t 9)), .none⟩,
   ⟨(.some 11), (.faddr 1 (.t 10)), .none⟩,
   ⟨(.some 12), (.load .false 1 (.t 11) .false), .none⟩,
   ⟨(.some 13), (.iaddr 3 (.t 8) (.t 12)), .none⟩,
   ⟨(.some 14), (.faddr 0 (.t 13)), .none⟩,
   ⟨(.some 15), (.load .false 1 (.t 14) .false), .none⟩,
   ⟨(.some 16), (.bin .neq (.t 15) (.c (.d (.int .u8 0)))), .none⟩,
   ⟨(.some 17), (.mov (.t 16)), .none⟩,
   ⟨(.some 18), (.mov (.t 0)), (.some (17, .true))⟩,
   ⟨(.some 19), (.nilchk (.t 18)), (.some (17, .true))⟩,
   ⟨(.some 20), (.faddr 0 (.t 19)), (.some (17, .true))⟩,
   ⟨(.some 21), (.load .false 1 (.t 20) .false), (.some (17, .true))⟩,
   ⟨(.some 22), (.mov (.t 0)), (.some (17, .true))⟩,
   ⟨(.some 23), (.nilchk (.t 22)), (.some (17, .true))⟩,
   ⟨(.some 24), (.faddr 1 (.t 23)), (.some (17, .true))⟩,
   ⟨(.some 25), (.load .false 1 (.t 24) .false), (.some (17, .true))⟩,
   ⟨(.some 26), (.iaddr 3 (.t 21) (.t 25)), (.some (17, .true))⟩,
   ⟨(.some 27), (.faddr 0 (.t 26)), (.some (17, .true))⟩,
   ⟨(.some 28), (.load .false 1 (.t 27) .false), (.some (17, .true))⟩,
   ⟨(.some 29), (.bin .neq (.t 28) (.c (.d (.int .u8 2)))), (.some (17, .true))⟩,
   ⟨(.some 30), (.pick (.t 17) (.t 29) (.c (.d (.bool .false)))), .none⟩,
   ⟨(.some 31), (.mov (.t 30)), .none⟩,
   ⟨(.some 32), (.mov (.t 0)), (.some (31, .true))⟩,
   ⟨(.some 33), (.nilchk (.t 32)), (.some (31, .true))⟩,
   ⟨(.some 34), (.faddr 0 (.t 33)), (.some (31, .true))⟩,
   ⟨(.some 35), (.load .false 1 (.t 34) .false), (.some (31, .true))⟩,
   ⟨(.some 36), (.mov (.t 0)), (.some (31, .true))⟩,
   ⟨(.some 37), (.nilchk (.t 36)), (.some (31, .true))⟩,
   ⟨(.some 38), (.faddr 1 (.t 37)), (.some (31, .true))⟩,
   ⟨(.some 39), (.load .false 1 (.t 38) .false), (.some (31, .true))⟩,
   ⟨(.some 40), (.iaddr 3 (.t 35) (.t 39)), (.some (31, .true))⟩,
   ⟨(.some 41), (.faddr 2 (.t 40)), (.some (31, .true))⟩,
   ⟨(.some 42), (.load .false 1 (.t 41) .false), (.some (31, .true))⟩,
   ⟨(.some 43), (.mov (.t 1)), (.some (31, .true))⟩,
   ⟨(.some 44), (.bin .eql (.t 42) (.t 43)), (.some (31, .true))⟩,
   ⟨(.some 45), (.pick (.t 31) (.t 44) (.c (.d (.bool .false)))), .none⟩,
   ⟨(.some 4), (.mov (.t 45)), .none⟩])
 .ret)
def c77 : PFun := ⟨
 (.seq (.region [⟨(.some 4), (.mov (.c (.d (.bool .false)))), .none⟩])
 c77_0),
 2, 46, [(.tmp 4)]⟩

/-- (*prompter/parse.reader).may -/
abbrev c68_2 : PCode :=
 (.seq (.region [⟨(.some 4), (.mov (.c (.d (.bool .false)))), .none⟩])
 .ret)
abbrev c68_1 : PCode :=
 (.cond (.t 8)
  c68_2
  .skip)
abbrev c68_4 : PCode :=
 (.keep [] (.seq (.region [⟨(.some 4), (.mov (.c (.d (.bool .true)))), .none⟩])
 .ret))
abbrev c68_3 : PCode :=
 (.keep [0] (.seq (.region [⟨(.some 9), (.mov (.t 0)), .none⟩,
   ⟨(.some 10), (.nilchk (.t 9)), .none⟩,
   ⟨(.some 11), (.faddr 1 (.t 10)), .none⟩,
   ⟨(.some 12), (.load .false 1 (.t 11) .false), .none⟩,
   ⟨(.some 13), (.bin .add (.t 12) (.c (.d (.int .i64 1)))), .none⟩,
   ⟨(.some 14), (.nilchk (.t 9)), .none⟩,
   ⟨(.some 15), (.faddr 1 (.t 14)), .none⟩,
   ⟨.none, (.store 1 (.t 15) (.t 13)), .none⟩])
 c68_4))
abbrev c68_0 : PCode :=
 (.seq (.seq (.region [⟨(.some 5), (.mov (.t 0)), .none⟩,
   ⟨(.some 6), (.mov (.t 1)), .none⟩,
   ⟨(.some 7), (.call0 77 [(.t 5), (.t 6)]), .none⟩,
   ⟨(.some 8), (.not (.t 7)), .none⟩])
 c68_1)
 c68_3)
def c68 : PFun := ⟨
 (.seq (.region [⟨(.some 4), (.mov (.c (.d (.bool .false)))), .none⟩])
 c68_0),
 2, 16, [(.tmp 4)]⟩

/-- (*prompter/parse.reader).must -/
abbrev c65_1 : PCode :=
 (.region [⟨(.some 8), (.mov (.t 0)), .none⟩,
   ⟨(.some 9), (.callE 71 [(.t 8), (.c (.d (.int .i64 4)))]), .none⟩])
abbrev c65_0 : PCode :=
 (.cond (.t 7)
  c65_1
  .skip)
def c65 : PFun := ⟨
 (.seq (.region [⟨(.some 4), (.mov (.t 0)), .none⟩,
   ⟨(.some 5), (.mov (.t 1)), .none⟩,
   ⟨(.some 6), (.callE 68 [(.t 4), (.t 5)]), .none⟩,
   ⟨(.some 7), (.not (.t 6)), .none⟩])
 c65_0),
 2, 10, []⟩

/-- (*prompter/parse.reader).name -/
abbrev c66_3 : PCode :=
 (.region [⟨(.some 23), (.mov (.t 0)), .none⟩,
   ⟨(.some 24), (.callE 71 [(.t 23), (.c (.d (.int .i64 8)))]), .none⟩])
abbrev c66_2 : PCode :=
 (.cond (.t 22)
  c66_3
  .skip)
abbrev c66_5 : PCode :=
 (.keep [3] (.seq (.region [⟨(.some 32), (.faddr 2 (.t 3)), .none⟩,
   ⟨(.some 33), (.load .false 1 (.t 32) .false), .none⟩,
   ⟨(.some 2), (.mov (.t 33)), .none⟩])
 .ret))
abbrev c66_4 : PCode :=
 (.keep [0, 3] (.seq (.region [⟨(.some 25), (.mov (.t 0)), .none⟩,
   ⟨(.some 26), (.nilchk (.t 25)), .none⟩,
   ⟨(.some 27), (.faddr 1 (.t 26)), .none⟩,
   ⟨(.some 28), (.load .false 1 (.t 27) .false), .none⟩,
   ⟨(.some 29), (.bin .add (.t 28) (.c (.d (.int .i64 1)))), .none⟩,
   ⟨(.some 30), (.nilchk (.t 25)), .none⟩,
   ⟨(.some 31), (.faddr 1 (.t 30)), .none⟩,
   ⟨.none, (.store 1 (.t 31) (.t 29)), .none⟩])
 c66_5))
abbrev c66_1 : PCode :=
 (.keep [0, 3] (.seq (.seq (.region [⟨(.some 14), (.faddr 0 (.t 3)), .none⟩,
   ⟨(.some 15), (.load .false 1 (.t 14) .false), .none⟩,
   ⟨(.some 16), (.bin .neq (.t 15) (.c (.d (.int .u8 1)))), .none⟩,
   ⟨(.some 17), (.mov (.t 16)), .none⟩,
   ⟨(.some 18), (.faddr 2 (.t 3)), (.some (17, .false))⟩,
   ⟨(.some 19), (.load .false 1 (.t 18) .false), (.some (17, .false))⟩,
   ⟨(.some 20), (.callE 33 [(.t 19)]), (.some (17, .false))⟩,
   ⟨(.some 21), (.not (.t 20)), (.some (17, .false))⟩,
   ⟨(.some 22), (.pick (.t 17) (.c (.d (.bool .true))) (.t 21)), .none⟩])
 c66_2)
 c66_4))
abbrev c66_0 : PCode :=
 (.seq (.region [⟨(.some 4), (.mov (.t 0)), .none⟩,
   ⟨(.some 5), (.nilchk (.t 4)), .none⟩,
   ⟨(.some 6), (.faddr 0 (.t 5)), .none⟩,
   ⟨(.some 7), (.load .false 1 (.t 6) .false), .none⟩,
   ⟨(.some 8), (.mov (.t 0)), .none⟩,
   ⟨(.some 9), (.nilchk (.t 8)), .none⟩,
   ⟨(.some 10), (.faddr 1 (.t 9)), .none⟩,
   ⟨(.some 11), (.load .false 1 (.t 10) .false), .none⟩,
   ⟨(.some 12), (.iaddr 3 (.t 7) (.t 11)), .none⟩,
   ⟨(.some 13), (.load .true 3 (.t 12) .false), .none⟩,
   ⟨(.some 3), (.alloc [(.d (.int .u8 0)), (.d (.int .i64 0)), (.d (.str (bs [])))]), .none⟩,
   ⟨.none, (.store 3 (.t 3) (.t 13)), .none⟩])
 c66_1)
def c66 : PFun := ⟨
 (.seq (.region [⟨(.some 2), (.mov (.c (.d (.str (bs []))))), .none⟩])
 c66_0),
 1, 34, [(.tmp 2)]⟩

/-- (*prompter/parse.reader).number -/
abbrev c67_3 : PCode :=
 (.region [⟨(.some 17), (.mov (.t 0)), .none⟩,
   ⟨(.some 18), (.callE 71 [(.t 17), (.c (.d (.int .i64 22)))]), .none⟩])
abbrev c67_2 : PCode :=
 (.cond (.t 16)
  c67_3
  .skip)
abbrev c67_5 : PCode :=
 (.keep [3] (.seq (.region [⟨(.some 26), (.load .true 3 (.t 3) .false), .none⟩,
   ⟨(.some 27), (.callE 76 [(.t 26)]), .none⟩,
   ⟨(.some 2), (.mov (.t 27)), .none⟩])
 .ret))
abbrev c67_4 : PCode :=
 (.keep [0, 3] (.seq (.region [⟨(.some 19), (.mov (.t 0)), .none⟩,
   ⟨(.some 20), (.nilchk (.t 19)), .none⟩,
   ⟨(.some 21), (.faddr 1 (.t 20)), .none⟩,
   ⟨(.some 22), (.load .false 1 (.t 21) .false), .none⟩,
   ⟨(.some 23), (.bin .add (.t 22) (.c (.d (.int .i64 1)))), .none⟩,
   ⟨(.some 24), (.nilchk (.t 19)), .none⟩,
   ⟨(.some 25), (.faddr 1 (.t 24)), .none⟩,
   ⟨.none, (.store 1 (.t 25) (.t 23)), .none⟩])
 c67_5))
abbrev c67_1 : PCode :=
 (.keep [0, 3] (.seq (.seq (.region [⟨(.some 14), (.faddr 0 (.t 3)), .none⟩,
   ⟨(.some 15), (.load .false 1 (.t 14) .false), .none⟩,
   ⟨(.some 16), (.bin .neq (.t 15) (.c (.d (.int .u8 2)))), .none⟩])
 c67_2)
 c67_4))
abbrev c67_0 : PCode :=
 (.seq (.region [⟨(.some 4), (.mov (.t 0)), .none⟩,
   ⟨(.some 5), (.nilchk (.t 4)), .none⟩,
   ⟨(.some 6), (.faddr 0 (.t 5)), .none⟩,
   ⟨(.some 7), (.load .false 1 (.t 6) .false), .none⟩,
   ⟨(.some 8), (.mov (.t 0)), .none⟩,
   ⟨(.some 9), (.nilchk (.t 8)), .none⟩,
   ⟨(.some 10), (.faddr 1 (.t 9)), .none⟩,
   ⟨(.some 11), (.load .false 1 (.t 10) .false), .none⟩,
   ⟨(.some 12), (.iaddr 3 (.t 7) (.t 11)), .none⟩,
   ⟨(.some 13), (.load .true 3 (.t 12) .false), .none⟩,
   ⟨(.some 3), (.alloc [(.d (.int .u8 0)), (.d (.int .i64 0)), (.d (.str (bs [])))]), .none⟩,
   ⟨.none, (.store 3 (.t 3) (.t 13)), .none⟩])
 c67_1)
def c67 : PFun := ⟨
 (.seq (.region [⟨(.some 2), (.mov (.c (.d (.int .i64 0)))), .none⟩])
 c67_0),
 1, 28, [(.tmp 2)]⟩

theorem e77 : entered Tryd.prog 77 = true := by kernel_rfl
theorem k77 : compFun Tryd.prog (fun _ => 0) 77 = some c77.er := by kernel_rfl
theorem e68 : entered Tryd.prog 68 = true := by kernel_rfl
theorem k68 : compFun Tryd.prog (fun _ => 0) 68 = some c68.er := by kernel_rfl
theorem e65 : entered Tryd.prog 65 = true := by kernel_rfl
theorem k65 : compFun Tryd.prog (fun _ => 16) 65 = some c65.er := by kernel_rfl
theorem e66 : entered Tryd.prog 66 = true := by kernel_rfl
theorem k66 : compFun Tryd.prog (fun _ => 16) 66 = some c66.er := by kernel_rfl
theorem e67 : entered Tryd.prog 67 = true := by kernel_rfl
theorem k67 : compFun Tryd.prog (fun _ => 16) 67 = some c67.er := by kernel_rfl

/-- What a reader panics with. -/
def wrongV (p e : Int) : AV := .d (.ifa 92 [.int .i64 p, .int .i64 e])
abbrev rdr (l : List LTok) (k : Nat) : List AV := [.d (.sl (l.map LTok.row)), .d (.int .i64 k)]
theorem tok_get {l : List LTok} {k : Nat} (hk : k < l.length) : l[k]? = some (tokAt l k) := by
  rw [tokAt, List.getD_eq_getElem?_getD, List.getElem?_eq_getElem hk]; rfl
theorem failC (l : List LTok) (pm k : Nat) (hk : k < l.length) (e : Int) (V : AV → Prop) (st0 : St) (hV : V (wrongV (tokAt l k).pos e)) {st t : St} (hle : st0.le st) (hL : Lay st [.box pm (rdr l k)] t) :
    PCallsE Tryd.prog GK (PE.at V st0) 71 [ptrAt pm, .d (.int .i64 e)] t (fun _ _ => False) := by
  have hx := tok_get hk
  refine pcalls_of k71 e71 (of_decide_eq_true rfl) ?_; dsimp only [c71]
  generalize hQ : pfin _ _ = Q
  refine gor hL ?_; (repeat (clear hL; intro t hL; refine gor hL ?_))
  refine pdie ?_
  refine gor hL ?_; (repeat (clear hL; intro t hL; refine gor hL ?_))
  exact ⟨rfl, die_ok (by kernel_rfl) ⟨hV, hle.trans hL.le⟩⟩
theorem isC (l : List LTok) (pm k : Nat) (hk : k < l.length) (w : ByteArray) : CL (PCalls Tryd.prog GK) 77 [ptrAt pm, .d (.str w)] [.box pm (rdr l k)] (fun _ : Unit => b2 (isM l k w)) (fun _ => [.box pm (rdr l k)]) := by
  have hx := tok_get hk
  refine ⟨fun _ => ⟨(), fun x hx => by
    rw [List.mem_singleton.1 hx]
    exact .inl ⟨_, List.mem_cons_self, rfl⟩, by simp⟩, ?_⟩
  intro st t hL; refine pcalls_of k77 e77 (of_decide_eq_true rfl) ?_; dsimp only [c77]; generalize hQ : pfin _ _ = Q
  unfold isM at hQ
  generalize tokAt l k = x at *
  refine gor hL ?_; (repeat (clear hL; intro t hL; refine gor hL ?_))
  cases h0 : x.kind != 0 with
  | false =>
    rw [h0] at hQ
    refine gor hL ?_; (repeat (clear hL; intro t hL; refine gor hL ?_))
    rw [← hQ]
    exact pfinK () rfl (.inl rfl) hL
  | true =>
    rw [h0] at hQ
    refine gor hL ?_; (repeat (clear hL; intro t hL; refine gor hL ?_))
    cases h2 : x.kind != 2 with
    | false =>
      rw [h2] at hQ
      refine gor hL ?_; (repeat (clear hL; intro t hL; refine gor hL ?_))
      rw [← hQ]
      exact pfinK () rfl (.inl rfl) hL
    | true =>
      rw [h2] at hQ
      refine gor hL ?_; (repeat (clear hL; intro t hL; refine gor hL ?_))
      rw [← hQ]
      exact pfinK () rfl (.inl rfl) hL
theorem mayC (l : List LTok) (pm k : Nat) (hk : k < l.length) (hl : l.length < 2 ^ 40) (w : ByteArray) : CL (PCalls Tryd.prog GK) 68 [ptrAt pm, .d (.str w)] [.box pm (rdr l k)] (fun _ : Unit => b2 (isM l k w)) (fun _ => [.box pm (rdr l (if isM l k w = true then k + 1 else k))]) := by
  refine ⟨fun _ => ⟨(), fun x hx => by
    rw [List.mem_singleton.1 hx]
    exact .inl ⟨_, List.mem_cons_self, rfl⟩, by simp⟩, ?_⟩
  intro st t hL; refine pcalls_of k68 e68 (of_decide_eq_true rfl) ?_; dsimp only [c68]; generalize hQ : pfin _ _ = Q
  refine gor hL ?_; (repeat (clear hL; intro t hL; refine gor hL ?_))
  refine po_callK hL (isC l pm k hk w) ?_
  clear hL; intro _ t hL
  refine gor hL ?_; (repeat (clear hL; intro t hL; refine gor hL ?_))
  cases hm : isM l k w with
  | false =>
    rw [hm] at hQ
    refine gor hL ?_; (repeat (clear hL; intro t hL; refine gor hL ?_))
    rw [← hQ]
    exact pfinK () rfl (.inl rfl) hL
  | true =>
    rw [hm] at hQ
    refine gor hL ?_; (repeat (clear hL; intro t hL; refine gor hL ?_))
    rw [show IntKind.i64.wrap ((k : Int) + 1) = ((k + 1 : Nat) : Int) from (IntWalk.i64_in _ (by omega)).trans (by omega)] at hL
    refine gor hL ?_; (repeat (clear hL; intro t hL; refine gor hL ?_))
    rw [← hQ]
    exact pfinK () rfl (.inl rfl) hL
/-- How a reader's function answers: with a value, and further on; or it panics. -/
def RC {α : Type} (l : List LTok) (pm k : Nat) (f : FuncId) (xs : List AV) (o : PO α) (rv : α → AV) : Prop :=
  ∀ (V : AV → Prop) (st0 : St), (∀ p e, o = .err p e → V (wrongV p e)) → ∀ st t, st0.le st → Lay st [.box pm (rdr l k)] t →
    PCallsE Tryd.prog GK (PE.at V st0) f (ptrAt pm :: xs) t (fun r t' => ∃ v k', o = .ok v k' ∧ r = rv v ∧ Lay st [.box pm (rdr l k')] t')
theorem mustC (l : List LTok) (pm k : Nat) (hk : k < l.length) (hl : l.length < 2 ^ 40) (w : ByteArray) : RC l pm k 65 [.d (.str w)] (mustM l k w) (fun _ => .tup []) := by
  intro V st0 hV st t hle hL
  refine pcalls_of k65 e65 (of_decide_eq_true rfl) ?_; dsimp only [c65]
  generalize hQ : pfin _ _ = Q
  refine gor hL ?_; (repeat (clear hL; intro t hL; refine gor hL ?_))
  refine po_callE (((mayC l pm k hk hl w).2 st t hL).may _) ?_
  clear hL
  rintro r t ⟨_, rfl, hL⟩
  unfold mustM at hV hQ
  cases hm : isM l k w with
  | true =>
    rw [hm] at hQ hL
    rw [if_pos rfl] at hQ hL
    refine gor hL ?_; (repeat (clear hL; intro t hL; refine gor hL ?_))
    rw [← hQ]
    exact ⟨_, _, _, rfl, .inl rfl, .refl _, (), k + 1, rfl, rfl, hL.pk⟩
  | false =>
    rw [hm] at hV hL
    rw [if_neg (by simp)] at hV hL
    refine gor hL ?_; (repeat (clear hL; intro t hL; refine gor hL ?_))
    refine po_callE (failC l pm k hk 4 V st0 (hV _ _ rfl) hle (hL.pk)) ?_
    intro r st' h
    exact h.elim
theorem nameC (l : List LTok) (pm k : Nat) (hk : k < l.length) (hl : l.length < 2 ^ 40) (hs : ∀ x ∈ l, x.text.size < 2 ^ 40) : RC l pm k 66 [] (nameM l k) (fun s => .d (.str s)) := by
  intro V st0 hV st t hle hL
  have hx := tok_get hk
  have hsz : (tokAt l k).text.size < 2 ^ 62 := by have := hs _ (List.mem_of_getElem? hx); omega
  have ek : IntKind.i64.wrap ((k : Int) + 1) = ((k + 1 : Nat) : Int) := (IntWalk.i64_in _ (by omega)).trans (by omega)
  refine pcalls_of k66 e66 (of_decide_eq_true rfl) ?_; dsimp only [c66]
  generalize hQ : pfin _ _ = Q
  unfold nameM at hV hQ
  unfold failM at hV hQ
  have hF := failC l pm k hk 8 V st0
  generalize tokAt l k = x at *
  refine gor hL ?_; (repeat (clear hL; intro t hL; refine gor hL ?_))
  (refine gor hL ?_; (repeat (clear hL; intro t hL; refine gor hL ?_))); (with_reducible refine po_allocL hL rfl ?_); clear hL; intro p3 t hL
  refine gor hL ?_; (repeat (clear hL; intro t hL; refine gor hL ?_))
  refine pseqk ?_
  refine gor hL ?_; (repeat (clear hL; intro t hL; refine gor hL ?_))
  by_cases h1 : x.kind = 1
  rotate_left
  · rw [if_neg (fun h => h1 h.1)] at hV
    refine gnm ?_; rw [show (x.kind != 1) = true by simpa using h1]
    refine gor hL ?_; (repeat (clear hL; intro t hL; refine gor hL ?_))
    replace hL : Lay st [.box pm (rdr l k)] _ := hL.pk
    refine po_callE (hF (hV _ _ rfl) hle hL) ?_
    intro r st' h
    exact h.elim
  refine gnm ?_; rw [show (x.kind != 1) = false by simpa using h1]
  refine gor hL ?_; (repeat (clear hL; intro t hL; refine gor hL ?_))
  refine po_callE ((C33 x.text hsz _).may _) ?_
  rintro r st' ⟨e1, rfl⟩
  subst e1
  cases h2 : isName x.text with
  | false =>
    rw [if_neg (fun h => by rw [h2] at h; cases h.2)] at hV
    refine gor hL ?_; (repeat (clear hL; intro t hL; refine gor hL ?_))
    replace hL : Lay st [.box pm (rdr l k)] _ := hL.pk
    refine po_callE (hF (hV _ _ rfl) hle hL) ?_
    intro r st' h
    exact h.elim
  | true =>
    rw [if_pos ⟨h1, h2⟩] at hQ
    refine gor hL ?_; (repeat (clear hL; intro t hL; refine gor hL ?_))
    rw [ek] at hL
    refine gor hL ?_; (repeat (clear hL; intro t hL; refine gor hL ?_))
    rw [← hQ]
    exact ⟨_, _, _, rfl, .inl rfl, .refl _, x.text, k + 1, rfl, rfl, hL.pk⟩
theorem C76 (x : LTok) (hs : x.text.size < 2 ^ 40) : Pure (PCalls Tryd.prog GK) 76 [.agg [.d (.int .u8 x.kind), .d (.int .i64 x.pos), .d (.str x.text)]] (.d (.int .i64 (valM x))) := by
  intro st; refine pcalls_of k76 e76 (of_decide_eq_true rfl) ?_; dsimp only [c76]; refine pstartL ?_; intro t hL; generalize hQ : pfin _ _ = Q
  (refine gor hL ?_; (repeat (clear hL; intro t hL; refine gor hL ?_))); refine po_boxA hL ?_; clear hL; intro p1 t hL
  refine gor hL ?_; (repeat (clear hL; intro t hL; refine gor hL ?_))
  refine pseqk ?_
  refine gor hL ?_; (repeat (clear hL; intro t hL; refine gor hL ?_))
  by_cases h2 : x.kind = 2
  rotate_left
  · have e : valM x = 0 := if_neg h2
    rw [e] at hQ
    refine gnm ?_; rw [show (x.kind == 2) = false by simpa using h2]
    refine gor hL ?_; (repeat (clear hL; intro t hL; refine gor hL ?_))
    rw [← hQ]
    exact pfin_pure rfl hL.le
  have e : valM x = valGo x.text (min x.text.size 18) := if_pos h2
  rw [e] at hQ
  refine gnm ?_; rw [show (x.kind == 2) = true by simpa using h2]
  refine gor hL ?_; (repeat (clear hL; intro t hL; refine gor hL ?_))
  have em : (if False then if (18 : Int) > (x.text.size : Int) then 18 else (x.text.size : Int) else if (18 : Int) < (x.text.size : Int) then 18 else (x.text.size : Int)) = ((min x.text.size 18 : Nat) : Int) := by
    rw [if_neg (fun h => h)]
    split <;> omega
  refine gnm ?_; rw [em]
  (apply prangeA ((min x.text.size 18)) (by omega) (fun a z => put z (some 3) a) (fun k a t => a = .d (.int .i64 (valGo x.text k)) ∧ Lay st [.box p1 [.d (.int .u8 x.kind), .d (.int .i64 x.pos), .d (.str x.text)]] t) ((.d (.int .i64 0)))); (· exact trimA); (· exact fun _ _ => rfl)
  · exact ⟨rfl, hL⟩
  · rintro a t ⟨rfl, hL⟩
    refine gor hL ?_; (repeat (clear hL; intro t hL; refine gor hL ?_))
    rw [← hQ]
    exact pfin_pure rfl hL.le
  · rintro k hk t a ⟨rfl, hL⟩
    have hkx : k < x.text.size := by omega
    refine pblock ?_
    refine gor hL ?_; (repeat (clear hL; intro t hL; refine gor hL ?_))
    exact ⟨_, ⟨rfl, hL⟩, tr2⟩
theorem numC (l : List LTok) (pm k : Nat) (hk : k < l.length) (hl : l.length < 2 ^ 40) (hs : ∀ x ∈ l, x.text.size < 2 ^ 40) : RC l pm k 67 [] (numM l k) (fun n => .d (.int .i64 n)) := by
  intro V st0 hV st t hle hL
  have hx := tok_get hk
  have hsz : (tokAt l k).text.size < 2 ^ 40 := hs _ (List.mem_of_getElem? hx)
  have ek : IntKind.i64.wrap ((k : Int) + 1) = ((k + 1 : Nat) : Int) := (IntWalk.i64_in _ (by omega)).trans (by omega)
  refine pcalls_of k67 e67 (of_decide_eq_true rfl) ?_; dsimp only [c67]
  generalize hQ : pfin _ _ = Q
  unfold numM at hV hQ
  unfold failM at hV hQ
  have hF := failC l pm k hk 22 V st0
  generalize tokAt l k = x at *
  refine gor hL ?_; (repeat (clear hL; intro t hL; refine gor hL ?_))
  (refine gor hL ?_; (repeat (clear hL; intro t hL; refine gor hL ?_))); (with_reducible refine po_allocL hL rfl ?_); clear hL; intro p3 t hL
  refine gor hL ?_; (repeat (clear hL; intro t hL; refine gor hL ?_))
  refine pseqk ?_
  refine gor hL ?_; (repeat (clear hL; intro t hL; refine gor hL ?_))
  by_cases h1 : x.kind = 2
  rotate_left
  · rw [if_neg h1] at hV
    refine gnm ?_; rw [show (x.kind != 2) = true by simpa using h1]
    refine gor hL ?_; (repeat (clear hL; intro t hL; refine gor hL ?_))
    replace hL : Lay st [.box pm (rdr l k)] _ := hL.pk
    refine po_callE (hF (hV _ _ rfl) hle hL) ?_
    intro r st' h
    exact h.elim
  rw [if_pos h1] at hQ
  refine gnm ?_; rw [show (x.kind != 2) = false by simpa using h1]
  refine gor hL ?_; (repeat (clear hL; intro t hL; refine gor hL ?_))
  rw [ek] at hL
  refine gor hL ?_; (repeat (clear hL; intro t hL; refine gor hL ?_))
  refine po_callE ((C76 x hsz _).may _) ?_
  rintro r st' ⟨e1, rfl⟩
  subst e1
  refine gor hL ?_; (repeat (clear hL; intro t hL; refine gor hL ?_))
  rw [← hQ]
  exact ⟨_, _, _, rfl, .inl rfl, .refl _, valM x, k + 1, rfl, rfl, hL.pk⟩
end Go.Pv
namespace Go.Pv
open Go.Proofs
set_option maxRecDepth 100000
set_option maxHeartbeats 8000000
/-- (*prompter/parse.reader).length -/
abbrev c78_3 : PCode :=
 (.seq (.region [⟨(.some 10), (.mov (.t 3)), .none⟩,
   ⟨(.some 2), (.mov (.t 10)), .none⟩])
 .ret)
abbrev c78_2 : PCode :=
 (.keep [0, 3] (.seq (.region [⟨(.some 8), (.mov (.t 0)), .none⟩,
   ⟨(.some 9), (.callE 65 [(.t 8), (.c (.d (.str (bs [93]))))]), .none⟩])
 c78_3))
abbrev c78_1 : PCode :=
 (.seq (.region [⟨(.some 6), (.mov (.t 0)), .none⟩,
   ⟨(.some 7), (.callE 67 [(.t 6)]), .none⟩,
   ⟨(.some 3), (.mov (.t 7)), .none⟩])
 c78_2)
abbrev c78_0 : PCode :=
 (.seq (.region [⟨(.some 4), (.mov (.t 0)), .none⟩,
   ⟨(.some 5), (.callE 65 [(.t 4), (.c (.d (.str (bs [91]))))]), .none⟩])
 c78_1)
def c78 : PFun := ⟨
 (.seq (.region [⟨(.some 2), (.mov (.c (.d (.int .i64 0)))), .none⟩])
 c78_0),
 1, 11, [(.tmp 2)]⟩

theorem e78 : entered Tryd.prog 78 = true := by kernel_rfl
theorem k78 : compFun Tryd.prog (fun _ => 16) 78 = some c78.er := by kernel_rfl

theorem lenC (l : List LTok) (pm k : Nat) (hk : k < l.length) (hl : l.length < 2 ^ 40) (hs : ∀ x ∈ l, x.text.size < 2 ^ 40) (he : Ended l) : RC l pm k 78 [] (lenM l k) (fun n => .d (.int .i64 n)) := by
  intro V st0 hV st t hle hL
  refine pcalls_of k78 e78 (of_decide_eq_true rfl) ?_; dsimp only [c78]
  generalize hQ : pfin _ _ = Q
  unfold lenM at hV hQ
  have h1 := mustM_in (w := bs [91]) he hk
  refine gor hL ?_; (repeat (clear hL; intro t hL; refine gor hL ?_))
  refine po_callE (mustC l pm k hk hl (bs [91]) V st0 (fun p e h => hV p e (PO.err_bind h _)) st _ hle hL) ?_
  rintro r t ⟨_, k1, e1, rfl, hL⟩
  replace hk := h1 _ _ e1
  rw [PO.ok_bind e1] at hV hQ
  have h2 := numM_in he hk
  refine gor hL ?_; (repeat (clear hL; intro t hL; refine gor hL ?_))
  refine po_callE (numC l pm k1 hk hl hs V st0 (fun p e h => hV p e (PO.err_bind h _)) st _ hle hL) ?_
  rintro r t ⟨n, k2, e2, rfl, hL⟩
  replace hk := h2 _ _ e2
  rw [PO.ok_bind e2] at hV hQ
  have h3 := mustM_in (w := bs [93]) he hk
  refine gor hL ?_; (repeat (clear hL; intro t hL; refine gor hL ?_))
  refine po_callE (mustC l pm k2 hk hl (bs [93]) V st0 (fun p e h => hV p e (PO.err_bind h _)) st _ hle hL) ?_
  rintro r t ⟨_, k3, e3, rfl, hL⟩
  rw [PO.ok_bind e3] at hV hQ
  refine gor hL ?_; (repeat (clear hL; intro t hL; refine gor hL ?_))
  rw [← hQ]
  exact ⟨_, _, _, rfl, .inl rfl, .refl _, n, k3, rfl, rfl, hL.pk⟩
end Go.Pv
