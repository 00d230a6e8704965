/- Functions of the program, by value. No condition. -/
import Derived.Test.YtdggkhnelmonkaaDoorF8
import Derived.Test.YtdggkhnelmonkaaDoorF10
namespace Go.Pv
open Go.Proofs
set_option maxRecDepth 100000
set_option maxHeartbeats 8000000
/-- (*prompter/parse.reader).fields -/
abbrev c79_6 : PCode :=
 (.region [⟨(.some 23), (.faddr 3 (.t 7)), .none⟩,
   ⟨(.some 24), (.load .false 1 (.t 23) .true), .none⟩,
   ⟨(.some 25), (.mov (.t 0)), .none⟩,
   ⟨(.some 26), (.mov (.t 2)), .none⟩,
   ⟨(.some 27), (.bin .add (.t 26) (.c (.d (.int .i64 1)))), .none⟩,
   ⟨(.some 28), (.callE 69 [(.t 25), (.t 27)]), .none⟩,
   ⟨(.some 29), (.bsl 4 [(.t 28)]), .none⟩,
   ⟨(.some 30), (.app 4 64 (.t 24) (.t 29)), .none⟩,
   ⟨(.some 31), (.faddr 3 (.t 7)), .none⟩,
   ⟨.none, (.storeo 1 (.t 31) (.t 30)), .none⟩])
abbrev c79_5 : PCode :=
 (.seq (.region [⟨(.some 21), (.mov (.t 0)), .none⟩,
   ⟨(.some 22), (.callE 65 [(.t 21), (.c (.d (.str (bs [58]))))]), .none⟩])
 c79_6)
abbrev c79_4 : PCode :=
 (.cond (.t 20)
  c79_5
  .skip)
abbrev c79_9 : PCode :=
 (.exit 0)
abbrev c79_8 : PCode :=
 (.cond (.t 34)
  c79_9
  .skip)
abbrev c79_7 : PCode :=
 (.keep [0, 1, 2, 6, 7] (.seq (.region [⟨(.some 32), (.mov (.t 0)), .none⟩,
   ⟨(.some 33), (.callE 68 [(.t 32), (.c (.d (.str (bs [44]))))]), .none⟩,
   ⟨(.some 34), (.not (.t 33)), .none⟩])
 c79_8))
abbrev c79_3 : PCode :=
 (.keep [0, 1, 2, 6, 7] (.seq (.seq (.region [⟨(.some 19), (.mov (.t 1)), .none⟩,
   ⟨(.some 20), (.bin .neq (.t 19) (.c (.d (.int .u8 7)))), .none⟩])
 c79_4)
 c79_7))
abbrev c79_11 : PCode :=
 (.seq (.region [⟨(.some 37), (.load .true 4 (.t 7) .false), .none⟩,
   ⟨.none, (.store 4 (.t 6) (.t 37)), .none⟩])
 .ret)
abbrev c79_10 : PCode :=
 (.seq (.region [⟨(.some 35), (.mov (.t 0)), .none⟩,
   ⟨(.some 36), (.callE 65 [(.t 35), (.c (.d (.str (bs [125]))))]), .none⟩])
 c79_11)
abbrev c79_2 : PCode :=
 (.seq (.block 0 (.loop (.some [0, 1, 2, 6, 7]) (.block 1 (.seq (.region [⟨(.some 12), (.faddr 2 (.t 7)), .none⟩,
   ⟨(.some 13), (.load .false 1 (.t 12) .true), .none⟩,
   ⟨(.some 14), (.mov (.t 0)), .none⟩,
   ⟨(.some 15), (.callE 66 [(.t 14)]), .none⟩,
   ⟨(.some 16), (.bsl 1 [(.t 15)]), .none⟩,
   ⟨(.some 17), (.app 1 16 (.t 13) (.t 16)), .none⟩,
   ⟨(.some 18), (.faddr 2 (.t 7)), .none⟩,
   ⟨.none, (.storeo 1 (.t 18) (.t 17)), .none⟩])
 c79_3))))
 c79_10)
abbrev c79_1 : PCode :=
 (.keep [0, 1, 2, 6, 7] (.seq (.region [⟨(.some 10), (.mov (.t 0)), .none⟩,
   ⟨(.some 11), (.callE 65 [(.t 10), (.c (.d (.str (bs [123]))))]), .none⟩])
 c79_2))
abbrev c79_0 : PCode :=
 (.seq (.region [⟨(.some 8), (.mov (.t 1)), .none⟩,
   ⟨(.some 9), (.bld [(.d (.int .u8 0)), (.d (.int .i64 0)), (.full []), (.full [])] [(0, (1, (.t 8)))]), .none⟩,
   ⟨(.some 7), (.alloc [(.d (.int .u8 0)), (.d (.int .i64 0)), (.full []), (.full [])]), .none⟩,
   ⟨.none, (.store 4 (.t 7) (.t 9)), .none⟩])
 c79_1)
def c79 : PFun := ⟨
 (.seq (.region [⟨(.some 6), (.alloc [(.d (.int .u8 0)), (.d (.int .i64 0)), (.full []), (.full [])]), .none⟩])
 c79_0),
 3, 38, [(.cell 6 .true 4)]⟩

/-- (*prompter/parse.reader).table -/
abbrev c41_9 : PCode :=
 (.exit 0)
abbrev c41_8 : PCode :=
 (.cond (.t 22)
  .skip
  c41_9)
abbrev c41_14 : PCode :=
 (.region [⟨(.some 33), (.faddr 3 (.t 3)), .none⟩,
   ⟨(.some 34), (.load .false 1 (.t 33) .false), .none⟩,
   ⟨(.some 35), (.load .true 5 (.t 4) .false), .none⟩,
   ⟨(.some 36), (.bsl 5 [(.t 35)]), .none⟩,
   ⟨(.some 37), (.app 5 80 (.t 34) (.t 36)), .none⟩,
   ⟨(.some 38), (.faddr 3 (.t 3)), .none⟩,
   ⟨.none, (.store 1 (.t 38) (.t 37)), .none⟩])
abbrev c41_13 : PCode :=
 (.keep [0, 2, 3, 4] (.seq (.region [⟨(.some 31), (.mov (.t 0)), .none⟩,
   ⟨(.some 32), (.callE 65 [(.t 31), (.c (.d (.str (bs [59]))))]), .none⟩])
 c41_14))
abbrev c41_12 : PCode :=
 (.seq (.region [⟨(.some 28), (.mov (.t 0)), .none⟩,
   ⟨(.some 29), (.callE 69 [(.t 28), (.c (.d (.int .i64 0)))]), .none⟩,
   ⟨(.some 30), (.faddr 1 (.t 4)), .none⟩,
   ⟨.none, (.store 4 (.t 30) (.t 29)), .none⟩])
 c41_13)
abbrev c41_11 : PCode :=
 (.keep [0, 2, 3, 4] (.seq (.region [⟨(.some 26), (.mov (.t 0)), .none⟩,
   ⟨(.some 27), (.callE 65 [(.t 26), (.c (.d (.str (bs [61]))))]), .none⟩])
 c41_12))
abbrev c41_10 : PCode :=
 (.block 1 (.seq (.region [⟨(.some 23), (.mov (.t 0)), .none⟩,
   ⟨(.some 24), (.callE 66 [(.t 23)]), .none⟩,
   ⟨(.some 25), (.bld [(.d (.str (bs []))), (.d (.int .u8 0)), (.d (.int .i64 0)), (.full []), (.full [])] [(0, (1, (.t 24)))]), .none⟩,
   ⟨(.some 4), (.alloc [(.d (.str (bs []))), (.d (.int .u8 0)), (.d (.int .i64 0)), (.full []), (.full [])]), .none⟩,
   ⟨.none, (.store 5 (.t 4) (.t 25)), .none⟩])
 c41_11))
abbrev c41_17 : PCode :=
 (.exit 2)
abbrev c41_16 : PCode :=
 (.cond (.t 40)
  .skip
  c41_17)
abbrev c41_22 : PCode :=
 (.region [⟨(.some 51), (.faddr 4 (.t 3)), .none⟩,
   ⟨(.some 52), (.load .false 1 (.t 51) .false), .none⟩,
   ⟨(.some 53), (.load .true 2 (.t 5) .false), .none⟩,
   ⟨(.some 54), (.bsl 2 [(.t 53)]), .none⟩,
   ⟨(.some 55), (.app 2 24 (.t 52) (.t 54)), .none⟩,
   ⟨(.some 56), (.faddr 4 (.t 3)), .none⟩,
   ⟨.none, (.store 1 (.t 56) (.t 55)), .none⟩])
abbrev c41_21 : PCode :=
 (.keep [0, 2, 3, 5] (.seq (.region [⟨(.some 49), (.mov (.t 0)), .none⟩,
   ⟨(.some 50), (.callE 65 [(.t 49), (.c (.d (.str (bs [59]))))]), .none⟩])
 c41_22))
abbrev c41_20 : PCode :=
 (.seq (.region [⟨(.some 46), (.mov (.t 0)), .none⟩,
   ⟨(.some 47), (.callE 67 [(.t 46)]), .none⟩,
   ⟨(.some 48), (.faddr 1 (.t 5)), .none⟩,
   ⟨.none, (.store 1 (.t 48) (.t 47)), .none⟩])
 c41_21)
abbrev c41_19 : PCode :=
 (.keep [0, 2, 3, 5] (.seq (.region [⟨(.some 44), (.mov (.t 0)), .none⟩,
   ⟨(.some 45), (.callE 65 [(.t 44), (.c (.d (.str (bs [61]))))]), .none⟩])
 c41_20))
abbrev c41_18 : PCode :=
 (.block 3 (.seq (.region [⟨(.some 41), (.mov (.t 0)), .none⟩,
   ⟨(.some 42), (.callE 66 [(.t 41)]), .none⟩,
   ⟨(.some 43), (.bld [(.d (.str (bs []))), (.d (.int .i64 0))] [(0, (1, (.t 42)))]), .none⟩,
   ⟨(.some 5), (.alloc [(.d (.str (bs []))), (.d (.int .i64 0))]), .none⟩,
   ⟨.none, (.store 2 (.t 5) (.t 43)), .none⟩])
 c41_19))
abbrev c41_25 : PCode :=
 (.exit 4)
abbrev c41_24 : PCode :=
 (.cond (.t 58)
  .skip
  c41_25)
abbrev c41_26 : PCode :=
 (.block 5 (.region [⟨(.some 59), (.faddr 5 (.t 3)), .none⟩,
   ⟨(.some 60), (.load .false 1 (.t 59) .true), .none⟩,
   ⟨(.some 61), (.mov (.t 0)), .none⟩,
   ⟨(.some 62), (.callE 70 [(.t 61)]), .none⟩,
   ⟨(.some 63), (.bsl 12 [(.t 62)]), .none⟩,
   ⟨(.some 64), (.app 12 168 (.t 60) (.t 63)), .none⟩,
   ⟨(.some 65), (.faddr 5 (.t 3)), .none⟩,
   ⟨.none, (.storeo 1 (.t 65) (.t 64)), .none⟩]))
abbrev c41_30 : PCode :=
 (.region [⟨(.some 80), (.mov (.t 0)), .none⟩,
   ⟨(.some 81), (.callE 71 [(.t 80), (.c (.d (.int .i64 12)))]), .none⟩])
abbrev c41_29 : PCode :=
 (.cond (.t 79)
  c41_30
  .skip)
abbrev c41_31 : PCode :=
 (.keep [2, 3] (.seq (.region [⟨(.some 82), (.load .true 6 (.t 3) .false), .none⟩,
   ⟨.none, (.store 6 (.t 2) (.t 82)), .none⟩])
 .ret))
abbrev c41_28 : PCode :=
 (.seq (.seq (.region [⟨(.some 68), (.mov (.t 0)), .none⟩,
   ⟨(.some 69), (.nilchk (.t 68)), .none⟩,
   ⟨(.some 70), (.faddr 0 (.t 69)), .none⟩,
   ⟨(.some 71), (.load .false 1 (.t 70) .false), .none⟩,
   ⟨(.some 72), (.mov (.t 0)), .none⟩,
   ⟨(.some 73), (.nilchk (.t 72)), .none⟩,
   ⟨(.some 74), (.faddr 1 (.t 73)), .none⟩,
   ⟨(.some 75), (.load .false 1 (.t 74) .false), .none⟩,
   ⟨(.some 76), (.iaddr 3 (.t 71) (.t 75)), .none⟩,
   ⟨(.some 77), (.faddr 0 (.t 76)), .none⟩,
   ⟨(.some 78), (.load .false 1 (.t 77) .false), .none⟩,
   ⟨(.some 79), (.bin .neq (.t 78) (.c (.d (.int .u8 0)))), .none⟩])
 c41_29)
 c41_31)
abbrev c41_27 : PCode :=
 (.seq (.region [⟨(.some 66), (.mov (.t 0)), .none⟩,
   ⟨(.some 67), (.callE 65 [(.t 66), (.c (.d (.str (bs [125]))))]), .none⟩])
 c41_28)
abbrev c41_23 : PCode :=
 (.seq (.block 4 (.loop (.some [0, 2, 3]) (.seq (.seq (.region [⟨(.some 57), (.mov (.t 0)), .none⟩,
   ⟨(.some 58), (.callE 68 [(.t 57), (.c (.d (.str (bs [112, 114, 111, 99]))))]), .none⟩])
 c41_24)
 c41_26)))
 c41_27)
abbrev c41_15 : PCode :=
 (.seq (.block 2 (.loop (.some [0, 2, 3]) (.seq (.seq (.region [⟨(.some 39), (.mov (.t 0)), .none⟩,
   ⟨(.some 40), (.callE 68 [(.t 39), (.c (.d (.str (bs [101, 114, 114, 111, 114]))))]), .none⟩])
 c41_16)
 c41_18)))
 c41_23)
abbrev c41_7 : PCode :=
 (.seq (.block 0 (.loop (.some [0, 2, 3]) (.seq (.seq (.region [⟨(.some 21), (.mov (.t 0)), .none⟩,
   ⟨(.some 22), (.callE 68 [(.t 21), (.c (.d (.str (bs [116, 121, 112, 101]))))]), .none⟩])
 c41_8)
 c41_10)))
 c41_15)
abbrev c41_6 : PCode :=
 (.keep [0, 2, 3] (.seq (.region [⟨(.some 19), (.mov (.t 0)), .none⟩,
   ⟨(.some 20), (.callE 65 [(.t 19), (.c (.d (.str (bs [123]))))]), .none⟩])
 c41_7))
abbrev c41_5 : PCode :=
 (.seq (.region [⟨(.some 16), (.mov (.t 0)), .none⟩,
   ⟨(.some 17), (.callE 67 [(.t 16)]), .none⟩,
   ⟨(.some 18), (.faddr 2 (.t 3)), .none⟩,
   ⟨.none, (.store 1 (.t 18) (.t 17)), .none⟩])
 c41_6)
abbrev c41_4 : PCode :=
 (.keep [0, 2, 3] (.seq (.region [⟨(.some 14), (.mov (.t 0)), .none⟩,
   ⟨(.some 15), (.callE 65 [(.t 14), (.c (.d (.str (bs [118, 101, 114, 115, 105, 111, 110]))))]), .none⟩])
 c41_5))
abbrev c41_3 : PCode :=
 (.keep [0, 2, 3] (.seq (.region [⟨(.some 11), (.mov (.t 0)), .none⟩,
   ⟨(.some 12), (.callE 67 [(.t 11)]), .none⟩,
   ⟨(.some 13), (.faddr 1 (.t 3)), .none⟩,
   ⟨.none, (.store 1 (.t 13) (.t 12)), .none⟩])
 c41_4))
abbrev c41_2 : PCode :=
 (.seq (.region [⟨(.some 8), (.mov (.t 0)), .none⟩,
   ⟨(.some 9), (.callE 66 [(.t 8)]), .none⟩,
   ⟨(.some 10), (.faddr 0 (.t 3)), .none⟩,
   ⟨.none, (.store 1 (.t 10) (.t 9)), .none⟩])
 c41_3)
abbrev c41_1 : PCode :=
 (.seq (.region [⟨(.some 6), (.mov (.t 0)), .none⟩,
   ⟨(.some 7), (.callE 65 [(.t 6), (.c (.d (.str (bs [112, 114, 111, 103, 114, 97, 109]))))]), .none⟩])
 c41_2)
abbrev c41_0 : PCode :=
 (.seq (.region [⟨(.some 3), (.alloc [(.d (.str (bs []))), (.d (.int .i64 0)), (.d (.int .i64 0)), (.full []), (.full []), (.full [])]), .none⟩])
 c41_1)
def c41 : PFun := ⟨
 (.seq (.region [⟨(.some 2), (.alloc [(.d (.str (bs []))), (.d (.int .i64 0)), (.d (.int .i64 0)), (.full []), (.full []), (.full [])]), .none⟩])
 c41_0),
 1, 83, [(.cell 2 .true 6)]⟩

theorem e79 : entered Tryd.prog 79 = true := by kernel_rfl
theorem k79 : compFun Tryd.prog (fun i => if i = 3 then 54 else if i = 6 then 54 else 16) 79 = some c79.er := by kernel_rfl
theorem e41 : entered Tryd.prog 41 = true := by kernel_rfl
theorem k41 : compFun Tryd.prog (fun i => if i = 21 then 54 else 16) 41 = some c41.er := by kernel_rfl

end Go.Pv
namespace Go.Pv
open Go.Proofs
set_option maxRecDepth 100000
set_option maxHeartbeats 8000000
theorem pjoinC {G : Glob} {C : CallsP} {c b : PCode} {l : List Nat} {Q : PEx → Slots → St → Prop} {s : Slots} {t : St} (J : Slots → St → Prop) (h1 : pwp G C c (PEx.next (fun s' t' => J (trim (some l) s') t') Q) s t) (h2 : ∀ s t, J s t → pwp G C b Q s t) :
    pwp G C c (PEx.next (pwp G C (.keep l b) Q) Q) s t :=
  pwp_mono (PEx.next_mono (K := fun s' t' => J (trim (some l) s') t') (fun _ _ k => pkeep (h2 _ _ k)) fun _ _ _ k => k) h1
theorem fieldsC (l : List LTok) (pm d k : Nat) (kk : Int) (hd : d + 1 ≤ 5) (hk : k < l.length) (hkk : kk = 6 ∨ kk = 7 ∨ kk = 8) (hl : l.length < 2 ^ 40) (hs : ∀ x ∈ l, x.text.size < 2 ^ 40) (he : Ended l)
    (hK : ∀ k, k < l.length → RC l pm k 69 [.d (.int .i64 ((5 - d : Nat) : Int))] (kindM l d k) KT.av) :
    RC l pm k 79 [.d (.int .u8 kk), .d (.int .i64 ((5 - (d + 1) : Nat) : Int))] (fieldsM (kindM l d) kk l k) KT.av := by
  intro V st0 hV st t hle hL
  refine pcalls_of k79 e79 (of_decide_eq_true rfl) ?_; dsimp only [c79]
  generalize hQ : pfin _ _ = Q
  unfold fieldsM at hV hQ
  have h1 := mustM_in (w := bs [123]) he hk
  have hin := kindM_in he d
  have hge := kindM_ge (l := l) d
  generalize kindM l d = K at *
  have ed : IntKind.i64.wrap (((5 - (d + 1) : Nat) : Int) + 1) = ((5 - d : Nat) : Int) := (IntWalk.i64_in _ (by omega)).trans (by omega)
  refine gor hL ?_; (repeat (clear hL; intro t hL; refine gor hL ?_))
  (refine gor hL ?_; (repeat (clear hL; intro t hL; refine gor hL ?_))); (with_reducible refine po_allocL hL rfl ?_); clear hL; intro p6 t hL
  refine gor hL ?_; (repeat (clear hL; intro t hL; refine gor hL ?_))
  (refine gor hL ?_; (repeat (clear hL; intro t hL; refine gor hL ?_))); (with_reducible refine po_allocL hL rfl ?_); clear hL; intro p7 t hL
  refine gor hL ?_; (repeat (clear hL; intro t hL; refine gor hL ?_))
  refine po_callE ((mustC l pm k hk hl (bs [123])).on (by kernel_rfl) (fun p e h => hV p e (PO.err_bind h _)) hle (show Lay st [.box pm (rdr l k), .box p7 _, .box p6 _] _ from hL.pk)) ?_
  clear hL
  rintro r t ⟨_, k1, e1, rfl, hL⟩
  replace hk := h1 _ _ e1
  rw [PO.ok_bind e1] at hV hQ
  refine gor hL ?_; (repeat (clear hL; intro t hL; refine gor hL ?_))
  refine pblock ?_
  generalize ho : fieldsGo K kk l (l.length - k1) k1 [] [] = o at hV hQ
  refine ploop (fun (g : Nat) s t => ∃ (k : Nat) (ns : List ByteArray) (ts : List KT) (a b : AV), fieldsGo K kk l g k ns ts = o ∧ k < l.length ∧ l.length ≤ g + k ∧ ns.length ≤ k ∧ ts.length ≤ k ∧ s = put (put (put (put (put (fun _ => .undef) (some 7) (ptrAt p7)) (some 6) (ptrAt p6)) (some 2) (.d (.int .i64 ((5 - (d + 1) : Nat) : Int)))) (some 1) (.d (.int .u8 kk))) (some 0) (ptrAt pm) ∧ Lay st [.box p7 [.d (.int .u8 kk), .d (.int .i64 0), a, b], .vec a (srows ns) 1, .vec b (ts.map KT.row) 4, .box pm (rdr l k), .box p6 [.d (.int .u8 0), .d (.int .i64 0), .full [], .full []]] t) ?_ (m := l.length - k1) ⟨k1, [], [], .full [], .full [], ho, hk, by omega, Nat.zero_le _, Nat.zero_le _, (by first | exact trimA | simp +decide only [pvc, pvi, pvt]), ((hL.full [] 1).full [] 4).pk⟩
  clear hL ho hk e1 t k1 h1
  rintro g s t ⟨k, ns, ts, a, b, ho, hk, hg, hns, hts, rfl, hL⟩
  obtain ⟨g, rfl⟩ := Nat.exists_eq_succ_of_ne_zero (show g ≠ 0 by omega)
  have fa := hL.vk a
  obtain ⟨fa_r, fa_w, fa_w1, fa_c, fa_s, fa_d⟩ := id fa
  have fb := hL.vk b
  obtain ⟨fb_r, fb_w, fb_w1, fb_c, fb_s, fb_d⟩ := id fb
  have hr1 : ∀ r ∈ srows ns, r.length = 1 := fun r hr => by
    obtain ⟨i, _, rfl⟩ := List.mem_map.1 hr; rfl
  have hr4 : ∀ r ∈ ts.map KT.row, r.length = 4 := fun r hr => by
    obtain ⟨i, _, rfl⟩ := List.mem_map.1 hr; exact KT.row_len _
  unfold fieldsGo at ho
  have h2 := nameM_in he hk
  have g2 := nameM_ge (l := l) (k := k)
  refine pblock ?_
  refine gor hL ?_; (repeat (clear hL; intro t hL; refine gor hL ?_))
  refine po_loadSt (H := [.box p7 [.d (.int .u8 kk), .d (.int .i64 0), a, b]]) (Stb.start _ (fun _ => .undef) t) hL rfl rfl (by repeat (first | exact Rem.head | apply Rem.tail)) (by (repeat (first | (with_reducible exact Pick.nil) | ((with_reducible apply Pick.cons); · (repeat (first | exact Rem.head | apply Rem.tail)))))) rfl (fun hS => ?_)
  refine gor hL ?_; (repeat (clear hL; intro t hL; refine gor hL ?_))
  refine po_callEW ((nameC l pm k hk hl hs).on (by kernel_rfl) (fun p e h => hV p e (ho.symm.trans (PO.err_bind h _))) hle (show Lay st [.box pm (rdr l k), .box p7 [.d (.int .u8 kk), .d (.int .i64 0), a, b], .vec a (srows ns) 1, .vec b (ts.map KT.row) 4, .box p6 _] _ from hL.pk)) ?_
  rintro r t' ⟨s, k2, e2, rfl, hL'⟩
  refine ⟨hS.holds hL' (by (repeat (first | (with_reducible exact Pick.nil) | ((with_reducible apply Pick.cons); · (repeat (first | exact Rem.head | apply Rem.tail)))))), ?_⟩
  clear hL hS; replace hL := hL'; clear hL'
  replace hk := h2 _ _ e2
  replace g2 := g2 _ _ e2
  rw [PO.ok_bind e2] at ho
  refine gor hL ?_; (repeat (clear hL; intro t hL; refine gor hL ?_))
  refine po_appA hL hr1 ?_ ?_; (· rw [len_srows]; simp; omega); clear hL; intro a' t fa' hL; obtain ⟨fa'_r, fa'_w, fa'_w1, fa'_c, fa'_s, fa'_d⟩ := id fa'
  rw [show srows ns ++ [[.str s]] = srows (ns ++ [s]) from srows_app ns [s]] at hL fa' fa'_w1
  have hns' : (ns ++ [s]).length ≤ k2 := by simp; omega
  generalize ns ++ [s] = ns' at *
  clear fa fa_r fa_w fa_w1 fa_c fa_s fa_d
  refine gor hL ?_; (repeat (clear hL; intro t hL; refine gor hL ?_))
  refine po_storeoL hL rfl rfl (by repeat (first | exact Rem.head | apply Rem.tail)) fa'_c ⟨rfl, by simp [fa'_s]⟩ (of_decide_eq_true rfl) rfl (fun t hL => ?_)
  refine gor hL ?_; (repeat (clear hL; intro t hL; refine gor hL ?_))
  refine pjoinC (fun s' u => ∃ (k3 : Nat) (ts' : List KT) (b : AV), (if kk = 7 then (.ok ts k2 : PO (List KT)) else (mustM l k2 (bs [58])).bind fun _ k => (K k).bind fun t k => .ok (ts ++ [t]) k) = .ok ts' k3 ∧ k2 ≤ k3 ∧ k3 < l.length ∧ ts'.length ≤ k3 ∧ s' = put (put (put (put (put (fun _ => .undef) (some 7) (ptrAt p7)) (some 6) (ptrAt p6)) (some 2) (.d (.int .i64 ((5 - (d + 1) : Nat) : Int)))) (some 1) (.d (.int .u8 kk))) (some 0) (ptrAt pm) ∧ Lay st [.box p7 [.d (.int .u8 kk), .d (.int .i64 0), a', b], .vec a' (srows ns') 1, .vec b (ts'.map KT.row) 4, .box pm (rdr l k3), .box p6 [.d (.int .u8 0), .d (.int .i64 0), .full [], .full []]] u) ?_ ?_
  · by_cases h7 : kk = 7
    · refine gor hL ?_; (repeat (clear hL; intro t hL; refine gor hL ?_))
      refine gnm ?_; rw [show (kk != 7) = false by simpa using h7]
      refine gor hL ?_; (repeat (clear hL; intro t hL; refine gor hL ?_))
      exact ⟨k2, ts, b, if_pos h7, Nat.le_refl _, hk, by omega, (by first | exact trimA | simp +decide only [pvc, pvi, pvt]), hL.pk⟩
    · rw [if_neg h7] at ho ⊢
      refine gor hL ?_; (repeat (clear hL; intro t hL; refine gor hL ?_))
      refine gnm ?_; rw [show (kk != 7) = true by simpa using h7]
      have h3 := mustM_in (w := bs [58]) he hk
      have g3 := mustM_ge (l := l) (k := k2) (w := bs [58])
      refine gor hL ?_; (repeat (clear hL; intro t hL; refine gor hL ?_))
      refine po_callE ((mustC l pm k2 hk hl (bs [58])).on (by kernel_rfl) (fun p e h => hV p e (ho.symm.trans (PO.err_bind (PO.err_bind h _) _))) hle (show Lay st [.box pm (rdr l k2), .box p7 [.d (.int .u8 kk), .d (.int .i64 0), a', b], .vec a' (srows ns') 1, .vec b (ts.map KT.row) 4, .box p6 _] _ from hL.pk)) ?_
      clear hL
      rintro r t ⟨_, k3, e3, rfl, hL⟩
      replace hk := h3 _ _ e3
      replace g3 := g3 _ _ e3
      have e3' := PO.ok_bind e3 (fun _ k => (K k).bind fun t k => .ok (ts ++ [t]) k)
      rw [e3'] at ho
      have h4 := hin k3 hk
      have g4 := hge k3
      refine gor hL ?_; (repeat (clear hL; intro t hL; refine gor hL ?_))
      refine po_loadSt (H := [.box p7 [.d (.int .u8 kk), .d (.int .i64 0), a', b]]) (Stb.start _ (fun _ => .undef) t) hL rfl rfl (by repeat (first | exact Rem.head | apply Rem.tail)) (by (repeat (first | (with_reducible exact Pick.nil) | ((with_reducible apply Pick.cons); · (repeat (first | exact Rem.head | apply Rem.tail)))))) rfl (fun hS => ?_)
      refine gor hL ?_; (repeat (clear hL; intro t hL; refine gor hL ?_))
      refine gnm ?_; rw [ed]
      refine gor hL ?_; (repeat (clear hL; intro t hL; refine gor hL ?_))
      refine po_callEW ((hK k3 hk).on (by kernel_rfl) (fun p e h => hV p e (ho.symm.trans (PO.err_bind (PO.err_bind h _) _))) hle (show Lay st [.box pm (rdr l k3), .box p7 [.d (.int .u8 kk), .d (.int .i64 0), a', b], .vec a' (srows ns') 1, .vec b (ts.map KT.row) 4, .box p6 _] _ from hL.pk)) ?_
      rintro r t' ⟨v, k4, e4, rfl, hL'⟩
      refine ⟨hS.holds hL' (by (repeat (first | (with_reducible exact Pick.nil) | ((with_reducible apply Pick.cons); · (repeat (first | exact Rem.head | apply Rem.tail)))))), ?_⟩
      clear hL hS; replace hL := hL'; clear hL'
      replace hk := h4 _ _ e4
      replace g4 := g4 _ _ e4
      refine gnm ?_; rw [KT.av_eq]
      refine gor hL ?_; (repeat (clear hL; intro t hL; refine gor hL ?_))
      refine po_appA hL hr4 ?_ ?_; (· rw [List.length_map]; simp; omega); clear hL; intro b' t fb' hL; obtain ⟨fb'_r, fb'_w, fb'_w1, fb'_c, fb'_s, fb'_d⟩ := id fb'
      rw [show ts.map KT.row ++ [[.int .u8 v.kind, .int .i64 v.most, .sl (v.names.map fun s => [.str s]), .sl (v.of.map KT.row)]] = (ts ++ [v]).map KT.row by rw [List.map_append, List.map_cons, KT.row_eq v]; rfl] at hL fb' fb'_w1
      refine gor hL ?_; (repeat (clear hL; intro t hL; refine gor hL ?_))
      refine po_storeoL hL rfl rfl (by repeat (first | exact Rem.head | apply Rem.tail)) fb'_c ⟨rfl, by simp [fb'_s]⟩ (of_decide_eq_true rfl) rfl (fun t hL => ?_)
      refine gor hL ?_; (repeat (clear hL; intro t hL; refine gor hL ?_))
      exact ⟨k4, ts ++ [v], b', e3'.trans (PO.ok_bind e4 _), by omega, hk, by simp; omega, (by first | exact trimA | simp +decide only [pvc, pvi, pvt]), hL.pk⟩
  clear hk hts hr4 hr1
  rintro s' u ⟨k3, ts', b, e3, g3, hk, hts, rfl, hL⟩
  rw [PO.ok_bind e3] at ho
  have fa := hL.vk a'
  obtain ⟨fa_r, fa_w, fa_w1, fa_c, fa_s, fa_d⟩ := id fa
  have fb := hL.vk b
  obtain ⟨fb_r, fb_w, fb_w1, fb_c, fb_s, fb_d⟩ := id fb
  refine gor hL ?_; (repeat (clear hL; intro t hL; refine gor hL ?_))
  refine po_callE (mayE l pm k3 hk hl (bs [44]) _ (show Lay st [.box pm (rdr l k3), .box p7 [.d (.int .u8 kk), .d (.int .i64 0), a', b], .vec a' (srows ns') 1, .vec b (ts'.map KT.row) 4, .box p6 _] _ from hL.pk)) ?_
  clear hL
  rintro r t ⟨rfl, hL⟩
  cases hm : isM l k3 (bs [44]) with
  | true =>
    rw [hm] at hL
    rw [if_pos rfl] at hL
    rw [if_pos hm] at ho
    refine gor hL ?_; (repeat (clear hL; intro t hL; refine gor hL ?_))
    exact ⟨g, by omega, k3 + 1, ns', ts', a', b, ho, isM_next he hk hm, by omega, by omega, by omega, (by first | exact trimA | simp +decide only [pvc, pvi, pvt]), hL.pk⟩
  | false =>
    rw [hm] at hL
    rw [if_neg Bool.false_ne_true] at hL
    rw [if_neg (by rw [hm]; exact Bool.false_ne_true)] at ho
    refine gor hL ?_; (repeat (clear hL; intro t hL; refine gor hL ?_))
    refine po_callE ((mustC l pm k3 hk hl (bs [125])).on (by kernel_rfl) (fun p e h => hV p e (ho.symm.trans (PO.err_bind h _))) hle (show Lay st [.box pm (rdr l k3), .box p7 [.d (.int .u8 kk), .d (.int .i64 0), a', b], .vec a' (srows ns') 1, .vec b (ts'.map KT.row) 4, .box p6 _] _ from hL.pk)) ?_
    clear hL
    rintro r t ⟨_, k4, e4, rfl, hL⟩
    rw [PO.ok_bind e4] at ho
    subst ho
    refine gor hL ?_; (repeat (clear hL; intro t hL; refine gor hL ?_))
    rw [← hQ]
    exact ⟨_, _, _, pret_one (pres_cellL hL rfl (by repeat (first | exact Rem.head | apply Rem.tail)) rfl), .inr rfl, .refl _, _, _, rfl, (by simp only [KT.av_eq, pvwk, List.map_cons, List.map_nil, fa_w1, fb_w1]; rfl), hL.pk⟩
end Go.Pv
namespace Go.Pv
open Go.Proofs
set_option maxRecDepth 100000
set_option maxHeartbeats 8000000
/-- A type, so deep: kinds and fields call each other. -/
theorem kindA (l : List LTok) (pm : Nat) (hl : l.length < 2 ^ 40) (hs : ∀ x ∈ l, x.text.size < 2 ^ 40) (he : Ended l) : ∀ (d : Nat), d ≤ 5 → ∀ k, k < l.length → RC l pm k 69 [.d (.int .i64 ((5 - d : Nat) : Int))] (kindM l d k) KT.av := by
  intro d
  induction d with
  | zero => intro hd k hk; exact kindC l pm k 0 hd hk hl hs he (kindM_in he) (fun _ _ h => by omega) (fun _ _ _ h => by omega)
  | succ d ih =>
    intro hd k hk
    refine kindC l pm k (d + 1) hd hk hl hs he (kindM_in he) ?_ ?_
    · intro d' k h hk
      obtain rfl : d' = d := by omega
      exact ih (by omega) k hk
    · intro d' k kk h hk hkk
      obtain rfl : d' = d := by omega
      exact fieldsC l pm d' k kk hd hk hkk hl hs he (fun k hk => ih (by omega) k hk)
theorem kind5 (l : List LTok) (pm : Nat) (hl : l.length < 2 ^ 40) (hs : ∀ x ∈ l, x.text.size < 2 ^ 40) (he : Ended l) (k : Nat) (hk : k < l.length) : RC l pm k 69 [.d (.int .i64 0)] (kindM l 5 k) KT.av := kindA l pm hl hs he 5 (Nat.le_refl _) k hk
theorem tableC (l : List LTok) (pm k : Nat) (hk : k < l.length) (hl3 : l.length < 2 ^ 30) (hs : ∀ x ∈ l, x.text.size < 2 ^ 40) (he : Ended l) : RC l pm k 41 [] (tableM l k) TB.av := by
  intro V st0 hV st t hle hL
  have hl : l.length < 2 ^ 40 := by omega
  have hk_ := kind5 l pm hl hs he
  have hin := kindM_in he 5
  have hpr := fun k hk => procC l pm k hk hl hs he hin hk_
  have kge := kindM_ge (l := l) 5
  refine pcalls_of k41 e41 (of_decide_eq_true rfl) ?_; dsimp only [c41]
  generalize hQ : pfin _ _ = Q
  refine gor hL ?_; (repeat (clear hL; intro t hL; refine gor hL ?_))
  (refine gor hL ?_; (repeat (clear hL; intro t hL; refine gor hL ?_))); (with_reducible refine po_allocL hL rfl ?_); clear hL; intro p2 t hL
  (refine gor hL ?_; (repeat (clear hL; intro t hL; refine gor hL ?_))); (with_reducible refine po_allocL hL rfl ?_); clear hL; intro p3 t hL
  refine gor hL ?_; (repeat (clear hL; intro t hL; refine gor hL ?_))
  generalize ho : tableM l k = o at hV hQ
  unfold tableM at ho
  have h1 := mustM_in (w := (bs [112, 114, 111, 103, 114, 97, 109])) he hk
  have g1 := mustM_ge (l := l) (k := k) (w := (bs [112, 114, 111, 103, 114, 97, 109]))
  refine po_callE ((mustC l pm k hk hl (bs [112, 114, 111, 103, 114, 97, 109])).on (by kernel_rfl) (fun p e h => hV p e (ho.symm.trans (PO.err_bind h _))) hle (show Lay st [.box pm (rdr l k), .box p3 _, .box p2 _] _ from hL.pk)) ?_
  clear hL
  rintro r t ⟨_, k1, e1, rfl, hL⟩
  replace hk := h1 _ _ e1
  replace g1 := g1 _ _ e1
  rw [PO.ok_bind e1] at ho
  refine gor hL ?_; (repeat (clear hL; intro t hL; refine gor hL ?_))
  have h2 := nameM_in he hk
  have g2 := nameM_ge (l := l) (k := k1)
  refine po_callE ((nameC l pm k1 hk hl hs).on (by kernel_rfl) (fun p e h => hV p e (ho.symm.trans (PO.err_bind h _))) hle (show Lay st [.box pm (rdr l k1), .box p3 _, .box p2 _] _ from hL.pk)) ?_
  clear hL
  rintro r t ⟨s, k2, e2, rfl, hL⟩
  replace hk := h2 _ _ e2
  replace g2 := g2 _ _ e2
  rw [PO.ok_bind e2] at ho
  refine gor hL ?_; (repeat (clear hL; intro t hL; refine gor hL ?_))
  have h3 := numM_in he hk
  have g3 := numM_ge (l := l) (k := k2)
  refine po_callE ((numC l pm k2 hk hl hs).on (by kernel_rfl) (fun p e h => hV p e (ho.symm.trans (PO.err_bind h _))) hle (show Lay st [.box pm (rdr l k2), .box p3 _, .box p2 _] _ from hL.pk)) ?_
  clear hL
  rintro r t ⟨n, k3, e3, rfl, hL⟩
  replace hk := h3 _ _ e3
  replace g3 := g3 _ _ e3
  rw [PO.ok_bind e3] at ho
  refine gor hL ?_; (repeat (clear hL; intro t hL; refine gor hL ?_))
  have h4 := mustM_in (w := (bs [118, 101, 114, 115, 105, 111, 110])) he hk
  have g4 := mustM_ge (l := l) (k := k3) (w := (bs [118, 101, 114, 115, 105, 111, 110]))
  refine po_callE ((mustC l pm k3 hk hl (bs [118, 101, 114, 115, 105, 111, 110])).on (by kernel_rfl) (fun p e h => hV p e (ho.symm.trans (PO.err_bind h _))) hle (show Lay st [.box pm (rdr l k3), .box p3 _, .box p2 _] _ from hL.pk)) ?_
  clear hL
  rintro r t ⟨_, k4, e4, rfl, hL⟩
  replace hk := h4 _ _ e4
  replace g4 := g4 _ _ e4
  rw [PO.ok_bind e4] at ho
  refine gor hL ?_; (repeat (clear hL; intro t hL; refine gor hL ?_))
  have h5 := numM_in he hk
  have g5 := numM_ge (l := l) (k := k4)
  refine po_callE ((numC l pm k4 hk hl hs).on (by kernel_rfl) (fun p e h => hV p e (ho.symm.trans (PO.err_bind h _))) hle (show Lay st [.box pm (rdr l k4), .box p3 _, .box p2 _] _ from hL.pk)) ?_
  clear hL
  rintro r t ⟨v, k5, e5, rfl, hL⟩
  replace hk := h5 _ _ e5
  replace g5 := g5 _ _ e5
  rw [PO.ok_bind e5] at ho
  refine gor hL ?_; (repeat (clear hL; intro t hL; refine gor hL ?_))
  have h6 := mustM_in (w := (bs [123])) he hk
  have g6 := mustM_ge (l := l) (k := k5) (w := (bs [123]))
  refine po_callE ((mustC l pm k5 hk hl (bs [123])).on (by kernel_rfl) (fun p e h => hV p e (ho.symm.trans (PO.err_bind h _))) hle (show Lay st [.box pm (rdr l k5), .box p3 _, .box p2 _] _ from hL.pk)) ?_
  clear hL
  rintro r t ⟨_, k6, e6, rfl, hL⟩
  replace hk := h6 _ _ e6
  replace g6 := g6 _ _ e6
  rw [PO.ok_bind e6] at ho
  refine gor hL ?_; (repeat (clear hL; intro t hL; refine gor hL ?_))
  refine pblock ?_
  refine ploop (fun (g : Nat) s_ t => ∃ (k : Nat) (la : List Al) (x : AV), (typesGo l g k la).bind (fun a k => (faultsGo l (l.length - k) k []).bind fun f k => (procsGo l (l.length - k) k []).bind fun p k => (endM l k).bind fun _ k => .ok ⟨s, n, v, a, f, p⟩ k) = o ∧ k < l.length ∧ l.length ≤ g + k ∧ la.length ≤ k ∧ s_ = put (put (put (fun _ => .undef) (some 3) (ptrAt p3)) (some 2) (ptrAt p2)) (some 0) (ptrAt pm) ∧ Lay st [.box p3 [.d (.str s), .d (.int .i64 n), .d (.int .i64 v), x, .full [], .full []], .vec x (la.map Al.row) 5, .box pm (rdr l k), .box p2 [.d (.str (bs [])), .d (.int .i64 0), .d (.int .i64 0), .full [], .full [], .full []]] t) ?_ (m := l.length - k6) ⟨k6, [], .full [], ho, hk, by omega, Nat.zero_le _, (by first | exact trimA | simp +decide only [pvc, pvi, pvt]), (hL.full [] 5).pk⟩
  clear hL ho hk t
  rintro g s_ t ⟨k, la, x, ho, hk, hg, hla, rfl, hL⟩
  obtain ⟨g, rfl⟩ := Nat.exists_eq_succ_of_ne_zero (show g ≠ 0 by omega)
  have fx := hL.vk x
  obtain ⟨fx_r, fx_w, fx_w1, fx_c, fx_s, fx_d⟩ := id fx
  have hr0 : ∀ r ∈ la.map Al.row, r.length = 5 := fun r hr => by
    obtain ⟨i, _, rfl⟩ := List.mem_map.1 hr; exact Al.row_len _
  unfold typesGo at ho
  refine gor hL ?_; (repeat (clear hL; intro t hL; refine gor hL ?_))
  refine po_callE (mayE l pm k hk hl (bs [116, 121, 112, 101]) _ (show Lay st [.box pm (rdr l k), .box p3 [.d (.str s), .d (.int .i64 n), .d (.int .i64 v), x, .full [], .full []], .vec x (la.map Al.row) 5, .box p2 _] _ from hL.pk)) ?_
  clear hL
  rintro r t ⟨rfl, hL⟩
  cases hm : isM l k (bs [116, 121, 112, 101]) with
  | true =>
    rw [hm] at hL
    rw [if_pos rfl] at hL
    rw [if_pos hm] at ho
    have hk0 := hk
    replace hk := isM_next he hk hm
    refine gor hL ?_; (repeat (clear hL; intro t hL; refine gor hL ?_))
    have h7 := nameM_in he hk
    have g7 := nameM_ge (l := l) (k := (k + 1))
    refine po_callE ((nameC l pm (k + 1) hk hl hs).on (by kernel_rfl) (fun p e h => hV p e (ho.symm.trans (PO.err_bind (PO.err_bind h _) _))) hle (show Lay st [.box pm (rdr l (k + 1)), .box p3 [.d (.str s), .d (.int .i64 n), .d (.int .i64 v), x, .full [], .full []], .vec x (la.map Al.row) 5, .box p2 _] _ from hL.pk)) ?_
    clear hL
    rintro r t ⟨w, k7, e7, rfl, hL⟩
    replace hk := h7 _ _ e7
    replace g7 := g7 _ _ e7
    rw [PO.ok_bind e7] at ho
    refine gor hL ?_; (repeat (clear hL; intro t hL; refine gor hL ?_))
    (refine gor hL ?_; (repeat (clear hL; intro t hL; refine gor hL ?_))); (with_reducible refine po_allocL hL rfl ?_); clear hL; intro p4 t hL
    refine gor hL ?_; (repeat (clear hL; intro t hL; refine gor hL ?_))
    have h8 := mustM_in (w := (bs [61])) he hk
    have g8 := mustM_ge (l := l) (k := k7) (w := (bs [61]))
    refine po_callE ((mustC l pm k7 hk hl (bs [61])).on (by kernel_rfl) (fun p e h => hV p e (ho.symm.trans (PO.err_bind (PO.err_bind h _) _))) hle (show Lay st [.box pm (rdr l k7), .box p4 _, .box p3 [.d (.str s), .d (.int .i64 n), .d (.int .i64 v), x, .full [], .full []], .vec x (la.map Al.row) 5, .box p2 _] _ from hL.pk)) ?_
    clear hL
    rintro r t ⟨_, k8, e8, rfl, hL⟩
    replace hk := h8 _ _ e8
    replace g8 := g8 _ _ e8
    rw [PO.ok_bind e8] at ho
    refine gor hL ?_; (repeat (clear hL; intro t hL; refine gor hL ?_))
    have h9 := hin k8 hk
    have g9 := kge k8
    refine po_callE ((hk_ k8 hk).on (by kernel_rfl) (fun p e h => hV p e (ho.symm.trans (PO.err_bind (PO.err_bind h _) _))) hle (show Lay st [.box pm (rdr l k8), .box p4 _, .box p3 [.d (.str s), .d (.int .i64 n), .d (.int .i64 v), x, .full [], .full []], .vec x (la.map Al.row) 5, .box p2 _] _ from hL.pk)) ?_
    clear hL
    rintro r t ⟨u, k9, e9, rfl, hL⟩
    replace hk := h9 _ _ e9
    replace g9 := g9 _ _ e9
    rw [PO.ok_bind e9] at ho
    refine gnm ?_; rw [KT.av_eq]
    refine gor hL ?_; (repeat (clear hL; intro t hL; refine gor hL ?_))
    have h10 := mustM_in (w := (bs [59])) he hk
    have g10 := mustM_ge (l := l) (k := k9) (w := (bs [59]))
    refine po_callE ((mustC l pm k9 hk hl (bs [59])).on (by kernel_rfl) (fun p e h => hV p e (ho.symm.trans (PO.err_bind (PO.err_bind h _) _))) hle (show Lay st [.box pm (rdr l k9), .box p4 _, .box p3 [.d (.str s), .d (.int .i64 n), .d (.int .i64 v), x, .full [], .full []], .vec x (la.map Al.row) 5, .box p2 _] _ from hL.pk)) ?_
    clear hL
    rintro r t ⟨_, k10, e10, rfl, hL⟩
    replace hk := h10 _ _ e10
    replace g10 := g10 _ _ e10
    rw [PO.ok_bind e10] at ho
    refine gor hL ?_; (repeat (clear hL; intro t hL; refine gor hL ?_))
    refine po_appA hL hr0 ?_ ?_; (· rw [List.length_map]; simp; omega); clear hL; intro x' t fx' hL; obtain ⟨fx'_r, fx'_w, fx'_w1, fx'_c, fx'_s, fx'_d⟩ := id fx'
    rw [show la.map Al.row ++ [[.str w, .int .u8 u.kind, .int .i64 u.most, .sl (u.names.map fun s => [.str s]), .sl (u.of.map KT.row)]] = (la ++ [(⟨w, u⟩ : Al)]).map Al.row by rw [List.map_append, List.map_cons, Al.row_eq]; rfl] at hL fx' fx'_w1
    refine gor hL ?_; (repeat (clear hL; intro t hL; refine gor hL ?_))
    exact ⟨g, by omega, k10, la ++ [(⟨w, u⟩ : Al)], x', ho, hk, by omega, by simp; omega, (by first | exact trimA | simp +decide only [pvc, pvi, pvt]), hL.pk⟩
  | false =>
    rw [hm] at hL
    rw [if_neg Bool.false_ne_true] at hL
    rw [if_neg (by rw [hm]; exact Bool.false_ne_true)] at ho
    refine gor hL ?_; (repeat (clear hL; intro t hL; refine gor hL ?_))
    refine pblock ?_
    refine ploop (fun (g : Nat) s_ t => ∃ (k : Nat) (lf : List Fl) (y : AV), (faultsGo l g k lf).bind (fun f k => (procsGo l (l.length - k) k []).bind fun p k => (endM l k).bind fun _ k => .ok ⟨s, n, v, la, f, p⟩ k) = o ∧ k < l.length ∧ l.length ≤ g + k ∧ lf.length ≤ k ∧ s_ = put (put (put (fun _ => .undef) (some 3) (ptrAt p3)) (some 2) (ptrAt p2)) (some 0) (ptrAt pm) ∧ Lay st [.box p3 [.d (.str s), .d (.int .i64 n), .d (.int .i64 v), x, y, .full []], .vec y (lf.map Fl.row) 2, .vec x (la.map Al.row) 5, .box pm (rdr l k), .box p2 [.d (.str (bs [])), .d (.int .i64 0), .d (.int .i64 0), .full [], .full [], .full []]] t) ?_ (m := l.length - k) ⟨k, [], .full [], ho, hk, by omega, Nat.zero_le _, (by first | exact trimA | simp +decide only [pvc, pvi, pvt]), (hL.full [] 2).pk⟩
    clear hL ho hk t
    rintro g s_ t ⟨k, lf, y, ho, hk, hg, hlf, rfl, hL⟩
    obtain ⟨g, rfl⟩ := Nat.exists_eq_succ_of_ne_zero (show g ≠ 0 by omega)
    have fy := hL.vk y
    obtain ⟨fy_r, fy_w, fy_w1, fy_c, fy_s, fy_d⟩ := id fy
    have hr1 : ∀ r ∈ lf.map Fl.row, r.length = 2 := fun r hr => by
      obtain ⟨i, _, rfl⟩ := List.mem_map.1 hr; rfl
    unfold faultsGo at ho
    refine gor hL ?_; (repeat (clear hL; intro t hL; refine gor hL ?_))
    refine po_callE (mayE l pm k hk hl (bs [101, 114, 114, 111, 114]) _ (show Lay st [.box pm (rdr l k), .box p3 [.d (.str s), .d (.int .i64 n), .d (.int .i64 v), x, y, .full []], .vec y (lf.map Fl.row) 2, .vec x (la.map Al.row) 5, .box p2 _] _ from hL.pk)) ?_
    clear hL
    rintro r t ⟨rfl, hL⟩
    cases hm : isM l k (bs [101, 114, 114, 111, 114]) with
    | true =>
      rw [hm] at hL
      rw [if_pos rfl] at hL
      rw [if_pos hm] at ho
      have hk0 := hk
      replace hk := isM_next he hk hm
      refine gor hL ?_; (repeat (clear hL; intro t hL; refine gor hL ?_))
      have h11 := nameM_in he hk
      have g11 := nameM_ge (l := l) (k := (k + 1))
      refine po_callE ((nameC l pm (k + 1) hk hl hs).on (by kernel_rfl) (fun p e h => hV p e (ho.symm.trans (PO.err_bind (PO.err_bind h _) _))) hle (show Lay st [.box pm (rdr l (k + 1)), .box p3 [.d (.str s), .d (.int .i64 n), .d (.int .i64 v), x, y, .full []], .vec y (lf.map Fl.row) 2, .vec x (la.map Al.row) 5, .box p2 _] _ from hL.pk)) ?_
      clear hL
      rintro r t ⟨w, k11, e11, rfl, hL⟩
      replace hk := h11 _ _ e11
      replace g11 := g11 _ _ e11
      rw [PO.ok_bind e11] at ho
      refine gor hL ?_; (repeat (clear hL; intro t hL; refine gor hL ?_))
      (refine gor hL ?_; (repeat (clear hL; intro t hL; refine gor hL ?_))); (with_reducible refine po_allocL hL rfl ?_); clear hL; intro p4 t hL
      refine gor hL ?_; (repeat (clear hL; intro t hL; refine gor hL ?_))
      have h12 := mustM_in (w := (bs [61])) he hk
      have g12 := mustM_ge (l := l) (k := k11) (w := (bs [61]))
      refine po_callE ((mustC l pm k11 hk hl (bs [61])).on (by kernel_rfl) (fun p e h => hV p e (ho.symm.trans (PO.err_bind (PO.err_bind h _) _))) hle (show Lay st [.box pm (rdr l k11), .box p4 _, .box p3 [.d (.str s), .d (.int .i64 n), .d (.int .i64 v), x, y, .full []], .vec y (lf.map Fl.row) 2, .vec x (la.map Al.row) 5, .box p2 _] _ from hL.pk)) ?_
      clear hL
      rintro r t ⟨_, k12, e12, rfl, hL⟩
      replace hk := h12 _ _ e12
      replace g12 := g12 _ _ e12
      rw [PO.ok_bind e12] at ho
      refine gor hL ?_; (repeat (clear hL; intro t hL; refine gor hL ?_))
      have h13 := numM_in he hk
      have g13 := numM_ge (l := l) (k := k12)
      refine po_callE ((numC l pm k12 hk hl hs).on (by kernel_rfl) (fun p e h => hV p e (ho.symm.trans (PO.err_bind (PO.err_bind h _) _))) hle (show Lay st [.box pm (rdr l k12), .box p4 _, .box p3 [.d (.str s), .d (.int .i64 n), .d (.int .i64 v), x, y, .full []], .vec y (lf.map Fl.row) 2, .vec x (la.map Al.row) 5, .box p2 _] _ from hL.pk)) ?_
      clear hL
      rintro r t ⟨u, k13, e13, rfl, hL⟩
      replace hk := h13 _ _ e13
      replace g13 := g13 _ _ e13
      rw [PO.ok_bind e13] at ho
      refine gor hL ?_; (repeat (clear hL; intro t hL; refine gor hL ?_))
      have h14 := mustM_in (w := (bs [59])) he hk
      have g14 := mustM_ge (l := l) (k := k13) (w := (bs [59]))
      refine po_callE ((mustC l pm k13 hk hl (bs [59])).on (by kernel_rfl) (fun p e h => hV p e (ho.symm.trans (PO.err_bind (PO.err_bind h _) _))) hle (show Lay st [.box pm (rdr l k13), .box p4 _, .box p3 [.d (.str s), .d (.int .i64 n), .d (.int .i64 v), x, y, .full []], .vec y (lf.map Fl.row) 2, .vec x (la.map Al.row) 5, .box p2 _] _ from hL.pk)) ?_
      clear hL
      rintro r t ⟨_, k14, e14, rfl, hL⟩
      replace hk := h14 _ _ e14
      replace g14 := g14 _ _ e14
      rw [PO.ok_bind e14] at ho
      refine gor hL ?_; (repeat (clear hL; intro t hL; refine gor hL ?_))
      refine po_appA hL hr1 ?_ ?_; (· rw [List.length_map]; simp; omega); clear hL; intro y' t fy' hL; obtain ⟨fy'_r, fy'_w, fy'_w1, fy'_c, fy'_s, fy'_d⟩ := id fy'
      rw [show lf.map Fl.row ++ [[.str w, .int .i64 u]] = (lf ++ [(⟨w, u⟩ : Fl)]).map Fl.row by rw [List.map_append, List.map_cons]; rfl] at hL fy' fy'_w1
      refine gor hL ?_; (repeat (clear hL; intro t hL; refine gor hL ?_))
      exact ⟨g, by omega, k14, lf ++ [(⟨w, u⟩ : Fl)], y', ho, hk, by omega, by simp; omega, (by first | exact trimA | simp +decide only [pvc, pvi, pvt]), hL.pk⟩
    | false =>
      rw [hm] at hL
      rw [if_neg Bool.false_ne_true] at hL
      rw [if_neg (by rw [hm]; exact Bool.false_ne_true)] at ho
      refine gor hL ?_; (repeat (clear hL; intro t hL; refine gor hL ?_))
      refine pblock ?_
      refine ploop (fun (g : Nat) s_ t => ∃ (k : Nat) (lp : List Pc) (z : AV), (procsGo l g k lp).bind (fun p k => (endM l k).bind fun _ k => .ok ⟨s, n, v, la, lf, p⟩ k) = o ∧ k < l.length ∧ l.length ≤ g + k ∧ lp.length ≤ k ∧ s_ = put (put (put (fun _ => .undef) (some 3) (ptrAt p3)) (some 2) (ptrAt p2)) (some 0) (ptrAt pm) ∧ Lay st [.box p3 [.d (.str s), .d (.int .i64 n), .d (.int .i64 v), x, y, z], .vec z (lp.map Pc.row) 12, .vec x (la.map Al.row) 5, .vec y (lf.map Fl.row) 2, .box pm (rdr l k), .box p2 [.d (.str (bs [])), .d (.int .i64 0), .d (.int .i64 0), .full [], .full [], .full []]] t) ?_ (m := l.length - k) ⟨k, [], .full [], ho, hk, by omega, Nat.zero_le _, (by first | exact trimA | simp +decide only [pvc, pvi, pvt]), (hL.full [] 12).pk⟩
      clear hL ho hk t
      rintro g s_ t ⟨k, lp, z, ho, hk, hg, hlp, rfl, hL⟩
      obtain ⟨g, rfl⟩ := Nat.exists_eq_succ_of_ne_zero (show g ≠ 0 by omega)
      have fz := hL.vk z
      obtain ⟨fz_r, fz_w, fz_w1, fz_c, fz_s, fz_d⟩ := id fz
      have hr2 : ∀ r ∈ lp.map Pc.row, r.length = 12 := fun r hr => by
        obtain ⟨i, _, rfl⟩ := List.mem_map.1 hr; rfl
      unfold procsGo at ho
      refine gor hL ?_; (repeat (clear hL; intro t hL; refine gor hL ?_))
      refine po_callE (mayE l pm k hk hl (bs [112, 114, 111, 99]) _ (show Lay st [.box pm (rdr l k), .box p3 [.d (.str s), .d (.int .i64 n), .d (.int .i64 v), x, y, z], .vec z (lp.map Pc.row) 12, .vec x (la.map Al.row) 5, .vec y (lf.map Fl.row) 2, .box p2 _] _ from hL.pk)) ?_
      clear hL
      rintro r t ⟨rfl, hL⟩
      cases hm : isM l k (bs [112, 114, 111, 99]) with
      | true =>
        rw [hm] at hL
        rw [if_pos rfl] at hL
        rw [if_pos hm] at ho
        have hk0 := hk
        replace hk := isM_next he hk hm
        refine gor hL ?_; (repeat (clear hL; intro t hL; refine gor hL ?_))
        refine pblock ?_
        refine gor hL ?_; (repeat (clear hL; intro t hL; refine gor hL ?_))
        refine po_loadSt (H := [.box p3 [.d (.str s), .d (.int .i64 n), .d (.int .i64 v), x, y, z]]) (Stb.start _ (fun _ => .undef) t) hL rfl rfl (by repeat (first | exact Rem.head | apply Rem.tail)) (by (repeat (first | (with_reducible exact Pick.nil) | ((with_reducible apply Pick.cons); · (repeat (first | exact Rem.head | apply Rem.tail)))))) rfl (fun hS => ?_)
        refine gor hL ?_; (repeat (clear hL; intro t hL; refine gor hL ?_))
        have h15 := procM_in he hk
        have g15 := procM_ge (l := l) (k := k + 1)
        refine po_callEW ((hpr (k + 1) hk).on (by kernel_rfl) (fun p e h => hV p e (ho.symm.trans (PO.err_bind (PO.err_bind h _) _))) hle (show Lay st [.box pm (rdr l (k + 1)), .box p3 [.d (.str s), .d (.int .i64 n), .d (.int .i64 v), x, y, z], .vec z (lp.map Pc.row) 12, .vec x (la.map Al.row) 5, .vec y (lf.map Fl.row) 2, .box p2 _] _ from hL.pk)) ?_
        rintro r t' ⟨u, k15, e15, rfl, hL'⟩
        refine ⟨hS.holds hL' (by (repeat (first | (with_reducible exact Pick.nil) | ((with_reducible apply Pick.cons); · (repeat (first | exact Rem.head | apply Rem.tail)))))), ?_⟩
        clear hL hS; replace hL := hL'; clear hL'
        replace hk := h15 _ _ e15
        replace g15 := g15 _ _ e15
        rw [PO.ok_bind e15] at ho
        refine gor hL ?_; (repeat (clear hL; intro t hL; refine gor hL ?_))
        refine po_appA hL hr2 ?_ ?_; (· rw [List.length_map]; simp; omega); clear hL; intro z' t fz' hL; obtain ⟨fz'_r, fz'_w, fz'_w1, fz'_c, fz'_s, fz'_d⟩ := id fz'
        rw [show lp.map Pc.row ++ [[.str u.name, .int .i64 u.number, .int .u8 u.takes.kind, .int .i64 u.takes.most, .sl (u.takes.names.map fun s => [.str s]), .sl (u.takes.of.map KT.row), .int .u8 u.answers.kind, .int .i64 u.answers.most, .sl (u.answers.names.map fun s => [.str s]), .sl (u.answers.of.map KT.row), .int .u8 u.collate, .int .i64 u.timeout]] = (lp ++ [u]).map Pc.row by rw [List.map_append, List.map_cons]; rfl] at hL fz' fz'_w1
        refine gor hL ?_; (repeat (clear hL; intro t hL; refine gor hL ?_))
        refine po_storeoL hL rfl rfl (by repeat (first | exact Rem.head | apply Rem.tail)) fz'_c ⟨rfl, by simp [fz'_s]⟩ (of_decide_eq_true rfl) rfl (fun t hL => ?_)
        refine gor hL ?_; (repeat (clear hL; intro t hL; refine gor hL ?_))
        exact ⟨g, by omega, k15, lp ++ [u], z', ho, hk, by omega, by simp; omega, (by first | exact trimA | simp +decide only [pvc, pvi, pvt]), hL.pk⟩
      | false =>
        rw [hm] at hL
        rw [if_neg Bool.false_ne_true] at hL
        rw [if_neg (by rw [hm]; exact Bool.false_ne_true)] at ho
        refine gor hL ?_; (repeat (clear hL; intro t hL; refine gor hL ?_))
        rw [PO.ok_bind rfl] at ho
        unfold endM at ho
        have h16 := mustM_in (w := (bs [125])) he hk
        have g16 := mustM_ge (l := l) (k := k) (w := (bs [125]))
        refine po_callE ((mustC l pm k hk hl (bs [125])).on (by kernel_rfl) (fun p e h => hV p e (ho.symm.trans (PO.err_bind (PO.err_bind h _) _))) hle (show Lay st [.box pm (rdr l k), .box p3 [.d (.str s), .d (.int .i64 n), .d (.int .i64 v), x, y, z], .vec z (lp.map Pc.row) 12, .vec x (la.map Al.row) 5, .vec y (lf.map Fl.row) 2, .box p2 _] _ from hL.pk)) ?_
        clear hL
        rintro r t ⟨_, k16, e16, rfl, hL⟩
        replace hk := h16 _ _ e16
        replace g16 := g16 _ _ e16
        rw [PO.ok_bind e16] at ho
        refine gor hL ?_; (repeat (clear hL; intro t hL; refine gor hL ?_))
        unfold failM at ho
        have ht := tok_get hk
        have hF := failE l pm k16 hk 12 V st0
        generalize tokAt l k16 = T at *
        refine gor hL ?_; (repeat (clear hL; intro t hL; refine gor hL ?_))
        refine pseqk ?_
        refine gor hL ?_; (repeat (clear hL; intro t hL; refine gor hL ?_))
        by_cases h0 : T.kind = 0
        · rw [if_pos h0] at ho
          refine gnm ?_; rw [show (T.kind != 0) = false by simpa using h0]
          refine gor hL ?_; (repeat (clear hL; intro t hL; refine gor hL ?_))
          subst ho
          rw [← hQ]
          exact ⟨_, _, _, pret_one (pres_cellL hL rfl (by repeat (first | exact Rem.head | apply Rem.tail)) rfl), .inr rfl, .refl _, _, _, rfl, (by simp only [pvwk, List.map_cons, List.map_nil, fx_w1, fy_w1, fz_w1]), hL.pk⟩
        · rw [if_neg h0] at ho
          refine gnm ?_; rw [show (T.kind != 0) = true by simpa using h0]
          refine gor hL ?_; (repeat (clear hL; intro t hL; refine gor hL ?_))
          refine po_callE (hF (hV _ _ ho.symm) hle (show Lay st [.box pm (rdr l k16), .box p3 [.d (.str s), .d (.int .i64 n), .d (.int .i64 v), x, y, z], .vec z (lp.map Pc.row) 12, .vec x (la.map Al.row) 5, .vec y (lf.map Fl.row) 2, .box p2 _] _ from hL.pk)) ?_
          intro r st' h
          exact h.elim
end Go.Pv
