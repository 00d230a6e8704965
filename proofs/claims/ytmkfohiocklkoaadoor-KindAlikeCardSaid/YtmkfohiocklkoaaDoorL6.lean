/- Functions of the program, by value. No condition. -/
import Derived.Test.YtmkfohiocklkoaaDoorL5
import Derived.Test.YtmkfohiocklkoaaDoorD6
namespace Go.Pv
open Go.Proofs
set_option maxRecDepth 100000
set_option maxHeartbeats 8000000

/-- prompter/prompterlaw05.Awake -/
abbrev c9_0 : PCode :=
 (.seq (.region [⟨(.some 1), (.call0 15 [(.c (.d (.str (bs [115, 101, 113]))))]), .none⟩,
   ⟨(.some 2), (.not (.t 1)), .none⟩,
   ⟨(.some 3), (.mov (.t 2)), .none⟩,
   ⟨(.some 4), (.call0 15 [(.c (.d (.str (bs [115, 101, 113, 117, 101, 108]))))]), (.some (3, .true))⟩,
   ⟨(.some 5), (.pick (.t 3) (.t 4) (.c (.d (.bool .false)))), .none⟩,
   ⟨(.some 6), (.mov (.t 5)), .none⟩,
   ⟨(.some 7), (.bld [(.d (.int .u16 0)), (.full []), (.d (.int .u8 0)), (.full [])] []), (.some (6, .true))⟩,
   ⟨(.some 8), (.call0 11 [(.t 7)]), (.some (6, .true))⟩,
   ⟨(.some 9), (.call0 12 [(.t 8)]), (.some (6, .true))⟩,
   ⟨(.some 10), (.bin .eql (.t 9) (.c (.d (.int .i64 0)))), (.some (6, .true))⟩,
   ⟨(.some 11), (.pick (.t 6) (.t 10) (.c (.d (.bool .false)))), .none⟩,
   ⟨(.some 0), (.mov (.t 11)), .none⟩])
 .ret)
def c9 : PFun := ⟨
 (.seq (.region [⟨(.some 0), (.mov (.c (.d (.bool .false)))), .none⟩])
 c9_0),
 0, 12, [(.tmp 0)]⟩

/-- prompter/prompterlaw05.KindChecks -/
abbrev c6_2 : PCode :=
 (.seq (.region [⟨(.some 2), (.mov (.c (.d (.bool .false)))), .none⟩])
 .ret)
abbrev c6_1 : PCode :=
 (.cond (.t 9)
  c6_2
  .skip)
abbrev c6_5 : PCode :=
 (.seq (.region [⟨(.some 2), (.mov (.c (.d (.bool .true)))), .none⟩])
 .ret)
abbrev c6_4 : PCode :=
 (.cond (.t 12)
  c6_5
  .skip)
abbrev c6_11 : PCode :=
 (.region [⟨(.some 22), (.mov (.t 4)), .none⟩,
   ⟨(.some 23), (.load .true 6 (.t 3) .false), .none⟩,
   ⟨(.some 24), (.faddr 2 (.t 6)), .none⟩,
   ⟨(.some 25), (.load .true 4 (.t 24) .false), .none⟩,
   ⟨(.some 26), (.callp 18 [(.t 23), (.t 25), (.c (.d (.int .i64 0)))]), .none⟩,
   ⟨(.some 27), (.load .true 6 (.t 3) .false), .none⟩,
   ⟨(.some 28), (.faddr 6 (.t 6)), .none⟩,
   ⟨(.some 29), (.load .true 4 (.t 28) .false), .none⟩,
   ⟨(.some 30), (.callp 18 [(.t 27), (.t 29), (.c (.d (.int .i64 0)))]), .none⟩,
   ⟨(.some 31), (.minmax .true (.t 22) [(.t 26), (.t 30)]), .none⟩,
   ⟨(.some 4), (.mov (.t 31)), .none⟩])
abbrev c6_10 : PCode :=
 (.block 1 (.seq (.region [⟨(.some 20), (.iaddr 12 (.t 16) (.t 18)), .none⟩,
   ⟨(.some 21), (.load .true 12 (.t 20) .false), .none⟩,
   ⟨(.some 6), (.alloc [(.d (.str (bs []))), (.d (.int .i64 0)), (.d (.int .u8 0)), (.d (.int .i64 0)), (.full []), (.full []), (.d (.int .u8 0)), (.d (.int .i64 0)), (.full []), (.full []), (.d (.int .u8 0)), (.d (.int .i64 0))]), .none⟩,
   ⟨.none, (.store 12 (.t 6) (.t 21)), .none⟩])
 c6_11))
abbrev c6_9 : PCode :=
 (.keep [3, 4, 16, 17, 18] (.block 0 (.loop (.some [18, 4, 3, 16, 17]) (.seq (.region [⟨(.some 19), (.bin .lss (.t 18) (.t 17)), .none⟩])
 (.seq (.cond (.t 19)
  .skip
  (.exit 0))
 (.seq c6_10
 (.region [⟨(.some 32), (.bin .add (.t 18) (.c (.d (.int .i64 1)))), .none⟩,
   ⟨(.some 18), (.mov (.t 32)), .none⟩])))))))
abbrev c6_13 : PCode :=
 (.keep [3, 4, 7] (.seq (.region [⟨(.some 35), (.mov (.t 7)), .none⟩,
   ⟨(.some 36), (.bin .eql (.t 35) (.c (.d (.int .i64 0)))), .none⟩,
   ⟨(.some 37), (.mov (.t 4)), .none⟩,
   ⟨(.some 38), (.bin .leq (.t 37) (.c (.d (.int .i64 200)))), .none⟩,
   ⟨(.some 39), (.eqB .false (.t 36) (.t 38)), .none⟩,
   ⟨(.some 40), (.mov (.t 39)), .none⟩,
   ⟨(.some 41), (.mov (.t 7)), (.some (40, .true))⟩,
   ⟨(.some 42), (.bin .eql (.t 41) (.c (.d (.int .i64 0)))), (.some (40, .true))⟩,
   ⟨(.some 43), (.mov (.t 42)), (.some (40, .true))⟩,
   ⟨(.some 44), (.mov (.t 7)), (.some (43, .false))⟩,
   ⟨(.some 45), (.bin .eql (.t 44) (.c (.d (.int .i64 6)))), (.some (43, .false))⟩,
   ⟨(.some 46), (.pick (.t 43) (.c (.d (.bool .true))) (.t 45)), (.some (40, .true))⟩,
   ⟨(.some 47), (.pick (.t 40) (.t 46) (.c (.d (.bool .false)))), .none⟩,
   ⟨(.some 48), (.mov (.t 47)), .none⟩,
   ⟨(.some 49), (.load .true 6 (.t 3) .false), (.some (48, .true))⟩,
   ⟨(.some 50), (.load .true 6 (.t 3) .false), (.some (48, .true))⟩,
   ⟨(.some 51), (.callp 19 [(.t 49), (.t 50)]), (.some (48, .true))⟩,
   ⟨(.some 52), (.pick (.t 48) (.t 51) (.c (.d (.bool .false)))), .none⟩,
   ⟨(.some 2), (.mov (.t 52)), .none⟩])
 .ret))
abbrev c6_12 : PCode :=
 (.seq (.region [⟨(.some 33), (.load .true 6 (.t 3) .false), .none⟩,
   ⟨(.some 34), (.callp 12 [(.t 33)]), .none⟩,
   ⟨(.some 7), (.mov (.t 34)), .none⟩])
 c6_13)
abbrev c6_8 : PCode :=
 (.seq (.seq (.region [⟨(.some 15), (.faddr 5 (.t 3)), .none⟩,
   ⟨(.some 16), (.load .false 1 (.t 15) .false), .none⟩,
   ⟨(.some 17), (.len (.t 16)), .none⟩,
   ⟨(.some 18), (.mov (.c (.d (.int .i64 0)))), .none⟩])
 c6_9)
 c6_12)
abbrev c6_7 : PCode :=
 (.keep [3] (.seq (.region [⟨(.some 4), (.mov (.c (.d (.int .i64 0)))), .none⟩])
 c6_8))
abbrev c6_6 : PCode :=
 (.keep [1] (.seq (.region [⟨(.some 13), (.load .true 4 (.t 1) .false), .none⟩,
   ⟨(.some 14), (.callp 11 [(.t 13)]), .none⟩,
   ⟨(.some 3), (.alloc [(.d (.str (bs []))), (.d (.int .i64 0)), (.d (.int .i64 0)), (.full []), (.full []), (.full [])]), .none⟩,
   ⟨.none, (.store 6 (.t 3) (.t 14)), .none⟩])
 c6_7))
abbrev c6_3 : PCode :=
 (.keep [1] (.seq (.seq (.region [⟨(.some 10), (.load .true 4 (.t 1) .false), .none⟩,
   ⟨(.some 11), (.callp 10 [(.t 10)]), .none⟩,
   ⟨(.some 12), (.not (.t 11)), .none⟩])
 c6_4)
 c6_6))
abbrev c6_0 : PCode :=
 (.seq (.seq (.region [⟨(.some 8), (.callp 9 []), .none⟩,
   ⟨(.some 9), (.not (.t 8)), .none⟩])
 c6_1)
 c6_3)
def c6 : PFun := ⟨
 (.seq (.region [⟨(.some 1), (.box 4 (.t 0)), .none⟩,
   ⟨(.some 2), (.mov (.c (.d (.bool .false)))), .none⟩])
 c6_0),
 1, 53, [(.tmp 2)]⟩

theorem e9 : entered Tryd.prog 9 = true := by kernel_rfl
theorem k9 : compFun Tryd.prog (fun _ => 0) 9 = some c9.er := by kernel_rfl
theorem e6 : entered Tryd.prog 6 = true := by kernel_rfl
theorem k6 : compFun Tryd.prog (fun _ => 1) 6 = some c6.er := by kernel_rfl


def Sm.none : Sm := ⟨0, [], 0, []⟩
theorem Sm.none_fit : Sm.none.fit := ⟨by decide, by decide, fun _ h => (by cases h), by decide, by decide, fun _ h => (by cases h)⟩
theorem none_check : Sm.none.tb.check = 0 := by rw [tb_check Sm.none_fit]; rfl
theorem named_seq : isName (bs [115, 101, 113]) = false := by decide +kernel
theorem named_sequel : isName (bs [115, 101, 113, 117, 101, 108]) = true := by decide +kernel
theorem C9 : Pure (PCalls Tryd.prog GK) 9 [] (b2 true) := by
  intro st; refine pcalls_of k9 e9 (of_decide_eq_true rfl) ?_; dsimp only [c9]; refine pstartL ?_; intro t hL; generalize hQ : pfin _ _ = Q
  refine gor hL ?_; (repeat (clear hL; intro t hL; refine gor hL ?_))
  refine po_call rfl (C15 (bs [115, 101, 113]) (by decide)) (fun _ _ h => False.elim h) ?_
  rw [named_seq]
  refine gor hL ?_; (repeat (clear hL; intro t hL; refine gor hL ?_))
  refine po_call rfl (C15 (bs [115, 101, 113, 117, 101, 108]) (by decide)) (fun _ _ h => False.elim h) ?_
  rw [named_sequel]
  refine gor hL ?_; (repeat (clear hL; intro t hL; refine gor hL ?_))
  refine po_call rfl (C11 Sm.none Sm.none_fit) (fun _ _ h => False.elim h) ?_
  refine gor hL ?_; (repeat (clear hL; intro t hL; refine gor hL ?_))
  refine po_call rfl (C12 Sm.none.tb (tb_fit Sm.none_fit)) (fun _ _ h => False.elim h) ?_
  rw [none_check]
  refine gor hL ?_; (repeat (clear hL; intro t hL; refine gor hL ?_))
  rw [← hQ]
  exact pfin_pure rfl hL.le

theorem alike_refl (t : TB) : t.alike t = true := by
  have h1 : ∀ x : ByteArray, seqB x x = true := fun x => seqB_iff.2 rfl
  have eqr : ∀ {α : Type} {e : α → α → Bool} {l : List α}, (∀ x ∈ l, e x x = true) → eqAll e l l = true := fun {α e l} h => eqAll_all rfl fun i h1 h2 => h _ (List.getElem_mem h1)
  have h2 : ∀ t : KT, t.same t = true := by
    intro t
    induction t using KT.ind with
    | h k m n o ih =>
    simp only [KT.same, KT.sames_all, beq_self_eq_true, Bool.true_and, Bool.and_eq_true]
    exact ⟨eqr fun x _ => h1 x, eqr ih⟩
  simp only [TB.alike, h1, beq_self_eq_true, Bool.true_and, Bool.and_eq_true]
  exact ⟨⟨eqr fun a _ => by simp [Al.same, h1, h2], eqr fun a _ => by simp [Fl.same, h1]⟩, eqr fun a _ => by simp [Pc.same, h1, h2]⟩

theorem C6 (s : Sm) (hf : s.fit) : Pure (PCalls Tryd.prog GK) 6 [s.av] (b2 true) := by
  have htf := tb_fit hf
  have htl := htf.procs
  have hck := tb_check hf
  have hdk : ∀ p ∈ s.tb.procs, dokc 20 s.tb.types p.takes ∧ dokc 20 s.tb.types p.answers := fun p hp => by
    obtain ⟨i, _, rfl⟩ := List.mem_map.1 hp
    exact pc_dokc hf i
  intro st; refine pcalls_of k6 e6 (of_decide_eq_true rfl) ?_; dsimp only [c6]; refine pstartL ?_; intro t hL; generalize hQ : pfin _ _ = Q
  (refine gor hL ?_; (repeat (clear hL; intro t hL; refine gor hL ?_))); refine po_boxA hL ?_; clear hL; intro p1 t hL
  refine gor hL ?_; (repeat (clear hL; intro t hL; refine gor hL ?_))
  refine po_callp rfl C9 ?_
  refine gor hL ?_; (repeat (clear hL; intro t hL; refine gor hL ?_))
  refine po_callp rfl (C10 s hf) ?_
  refine gor hL ?_; (repeat (clear hL; intro t hL; refine gor hL ?_))
  refine pcond_b rfl (fun h1 => ?_) (fun h1 => ?_)
  · refine gor hL ?_; (repeat (clear hL; intro t hL; refine gor hL ?_))
    rw [← hQ]
    exact pfin_pure rfl hL.le
  refine gor hL ?_; (repeat (clear hL; intro t hL; refine gor hL ?_))
  refine po_callp rfl (C11 s hf) ?_
  generalize s.tb = T at *
  (refine gor hL ?_; (repeat (clear hL; intro t hL; refine gor hL ?_))); (with_reducible refine po_allocL hL rfl ?_); clear hL; intro p3 t hL
  refine gor hL ?_; (repeat (clear hL; intro t hL; refine gor hL ?_))
  (apply prangeA (T.procs.length) (by omega) (fun a z => put z (some 4) (i64 a)) (fun k a t => Lay st [.box p3 [.d (.str T.name), .d (.int .i64 T.number), .d (.int .i64 T.version), .d (.sl (T.types.map Al.row)), .d (.sl (T.faults.map Fl.row)), .d (.sl (T.procs.map Pc.row))]] t ∧ 0 ≤ a ∧ a ≤ 1000 ∧ (a ≤ 200 ↔ (T.procs.take k).all (few T.types) = true)) ((0 : Int))); (· exact trimA); (· exact fun _ _ => rfl)
  · exact ⟨hL.pk, by decide, by decide, by simp⟩
  · rintro a t ⟨hL, ha0, ha1, ha2⟩
    rw [List.take_length] at ha2
    refine gor hL ?_; (repeat (clear hL; intro t hL; refine gor hL ?_))
    refine po_callp rfl (C12 T htf) ?_
    rw [hck]
    have hal := alike_refl T
    by_cases hB : T.procs.all (few T.types) = true
    · rw [if_pos hB]
      refine gor hL ?_; (repeat (clear hL; intro t hL; refine gor hL ?_))
      refine gnm ?_; rw [decide_eq_true (ha2.2 hB)]
      refine gor hL ?_; (repeat (clear hL; intro t hL; refine gor hL ?_))
      refine po_callp rfl (C19 T T htf) ?_
      rw [hal]
      refine gor hL ?_; (repeat (clear hL; intro t hL; refine gor hL ?_))
      rw [← hQ]
      exact pfin_pure rfl hL.le
    · rw [if_neg hB]
      refine gor hL ?_; (repeat (clear hL; intro t hL; refine gor hL ?_))
      refine gnm ?_; rw [decide_eq_false (fun h => hB (ha2.1 h))]
      refine gor hL ?_; (repeat (clear hL; intro t hL; refine gor hL ?_))
      refine po_callp rfl (C19 T T htf) ?_
      rw [hal]
      refine gor hL ?_; (repeat (clear hL; intro t hL; refine gor hL ?_))
      rw [← hQ]
      exact pfin_pure rfl hL.le
  · rintro k hk a t ⟨hL, ha0, ha1, ha2⟩
    obtain ⟨y, hy, hm⟩ := elem_at hk
    refine pblock ?_
    (refine gor hL ?_; (repeat (clear hL; intro t hL; refine gor hL ?_))); (with_reducible refine po_allocL hL rfl ?_); clear hL; intro p6 t hL
    refine gor hL ?_; (repeat (clear hL; intro t hL; refine gor hL ?_))
    refine po_cp (C18 20 T.types y.takes (.str T.name) (.int .i64 T.number) (.int .i64 T.version) (.sl (T.faults.map Fl.row)) (.sl (T.procs.map Pc.row)) 0 (dokc_dok (hdk y hm).1) htf.types (htf.pfit y hm).1) ?_
    refine gor hL ?_; (repeat (clear hL; intro t hL; refine gor hL ?_))
    refine po_cp (C18 20 T.types y.answers (.str T.name) (.int .i64 T.number) (.int .i64 T.version) (.sl (T.faults.map Fl.row)) (.sl (T.procs.map Pc.row)) 0 (dokc_dok (hdk y hm).2) htf.types (htf.pfit y hm).2) ?_
    refine gor hL ?_; (repeat (clear hL; intro t hL; refine gor hL ?_))
    have hfew : few T.types y = true ↔ cnt 20 T.types y.takes ≤ 200 ∧ cnt 20 T.types y.answers ≤ 200 := by simp [few]
    refine ⟨_, ⟨hL.pk, ?_, ?_, ?_⟩, tr2⟩
    · simp only [if_true]
      omega
    · simp only [if_true]
      omega
    · rw [take_snoc hy, List.all_append, Bool.and_eq_true, ← ha2, List.all_cons, List.all_nil, Bool.and_true, hfew]
      simp only [if_true]
      omega
end Go.Pv
