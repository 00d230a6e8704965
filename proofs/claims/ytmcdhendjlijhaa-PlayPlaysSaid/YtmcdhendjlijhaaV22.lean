/- Functions of the program, by value. No condition. -/
import Derived.Test.YtmcdhendjlijhaaV20
import Derived.Test.YtmcdhendjlijhaaV21
import Derived.Test.YtmcdhendjlijhaaV8
import Derived.Test.YtmcdhendjlijhaaX1
namespace Go.Pv
open Go.Proofs
set_option maxRecDepth 100000
set_option maxHeartbeats 8000000

/-- prompter/play.Play$1 -/
abbrev c32_1 : PCode :=
 (.region [⟨(.some 11), (.load .true 8 (.t 0) .true), .none⟩,
   ⟨(.some 12), (.faddr 0 (.t 3)), .none⟩,
   ⟨(.some 13), (.load .true 6 (.t 12) .true), .none⟩,
   ⟨.none, (.store 8 (.t 1) (.t 11)), .none⟩,
   ⟨.none, (.store 6 (.t 2) (.t 13)), .none⟩])
abbrev c32_0 : PCode :=
 (.cond (.t 10)
  c32_1
  .skip)
abbrev c32_p : PCode :=
 (.keep [0, 1, 2, 3, 4] (.seq (.region [⟨(.some 10), (.mov (.t 4)), .none⟩])
 c32_0))
abbrev c32_o : List POper := [⟨(.some 7), (.tassert 99 (.agg [(.d (.int .i64 0)), (.d (.int .i64 0)), (.d (.int .i64 0)), (.d (.flt .f64 0)), (.d (.str (bs []))), (.full [])]) (.t 6)), .none⟩,
   ⟨(.some 5), (.mov (.t 7)), .none⟩,
   ⟨(.some 8), (.ext (.t 5) 0), .none⟩,
   ⟨(.some 9), (.ext (.t 5) 1), .none⟩,
   ⟨(.some 3), (.alloc [(.d (.int .i64 0)), (.d (.int .i64 0)), (.d (.int .i64 0)), (.d (.flt .f64 0)), (.d (.str (bs []))), (.full [])]), .none⟩,
   ⟨.none, (.store 6 (.t 3) (.t 8)), .none⟩,
   ⟨(.some 4), (.mov (.t 9)), .none⟩]
def c32 : RFun := ⟨6, c32_o, c32_p, 14⟩

/-- prompter/play.Play -/
abbrev c13_2 : PCode :=
 (.seq (.region [⟨(.some 14), (.load .true 8 (.t 4) .false), .none⟩,
   ⟨(.some 15), (.bld [(.d (.int .i64 0)), (.d (.int .i64 0)), (.d (.int .i64 0)), (.d (.flt .f64 0)), (.d (.str (bs []))), (.full [])] [(0, (1, (.c (.d (.int .i64 14)))))]), .none⟩,
   ⟨.none, (.store 8 (.t 6) (.t 14)), .none⟩,
   ⟨.none, (.store 6 (.t 7) (.t 15)), .none⟩])
 .ret)
abbrev c13_1 : PCode :=
 (.cond (.t 13)
  c13_2
  .skip)
abbrev c13_5 : PCode :=
 (.seq (.region [⟨(.some 21), (.load .true 8 (.t 4) .false), .none⟩,
   ⟨(.some 22), (.bld [(.d (.int .i64 0)), (.d (.int .i64 0)), (.d (.int .i64 0)), (.d (.flt .f64 0)), (.d (.str (bs []))), (.full [])] [(0, (1, (.c (.d (.int .i64 17)))))]), .none⟩,
   ⟨.none, (.store 8 (.t 6) (.t 21)), .none⟩,
   ⟨.none, (.store 6 (.t 7) (.t 22)), .none⟩])
 .ret)
abbrev c13_4 : PCode :=
 (.cond (.t 20)
  c13_5
  .skip)
abbrev c13_13 : PCode :=
 (.region [⟨(.some 47), (.mov (.t 8)), .none⟩,
   ⟨(.some 48), (.mov (.t 9)), .none⟩,
   ⟨(.some 49), (.bin .add (.c (.d (.int .i64 8))) (.t 48)), .none⟩,
   ⟨(.some 50), (.mov (.t 8)), .none⟩,
   ⟨(.some 51), (.nilchk (.t 50)), .none⟩,
   ⟨(.some 52), (.faddr 17 (.t 51)), .none⟩,
   ⟨(.some 53), (.load .false 1 (.t 52) .false), .none⟩,
   ⟨(.some 54), (.mov (.t 9)), .none⟩,
   ⟨(.some 55), (.iaddr 1 (.t 53) (.t 54)), .none⟩,
   ⟨(.some 56), (.load .false 1 (.t 55) .false), .none⟩,
   ⟨(.some 57), (.nilchk (.t 47)), .none⟩,
   ⟨(.some 58), (.faddr 0 (.t 57)), .none⟩,
   ⟨(.some 59), (.iaddrA 16 1 (.t 58) (.t 49)), .none⟩,
   ⟨.none, (.store 1 (.t 59) (.t 56)), .none⟩])
abbrev c13_12 : PCode :=
 (.cond (.t 46)
  c13_13
  .skip)
abbrev c13_11 : PCode :=
 (.seq (.region [⟨(.some 40), (.mov (.t 9)), .none⟩,
   ⟨(.some 41), (.mov (.t 8)), .none⟩,
   ⟨(.some 42), (.nilchk (.t 41)), .none⟩,
   ⟨(.some 43), (.faddr 17 (.t 42)), .none⟩,
   ⟨(.some 44), (.load .false 1 (.t 43) .false), .none⟩,
   ⟨(.some 45), (.len (.t 44)), .none⟩,
   ⟨(.some 46), (.bin .lss (.t 40) (.t 45)), .none⟩])
 c13_12)
abbrev c13_10 : PCode :=
 (.block 1 (.seq (.region [⟨(.some 39), (.mov (.t 37)), .none⟩,
   ⟨(.some 9), (.mov (.t 39)), .none⟩])
 c13_11))
abbrev c13_9 : PCode :=
 (.block 0 (.loop (.some [37, 3, 4, 6, 7, 8]) (.seq (.region [⟨(.some 38), (.bin .lss (.t 37) (.c (.d (.int .i64 8)))), .none⟩])
 (.seq (.cond (.t 38)
  .skip
  (.exit 0))
 (.seq c13_10
 (.region [⟨(.some 60), (.bin .add (.t 37) (.c (.d (.int .i64 1)))), .none⟩,
   ⟨(.some 37), (.mov (.t 60)), .none⟩]))))))
abbrev c13_8 : PCode :=
 (.keep [3, 4, 6, 7, 8] (.seq (.seq (.region [⟨(.some 37), (.mov (.c (.d (.int .i64 0)))), .none⟩])
 c13_9)
 .skip))
abbrev c13_7 : PCode :=
 (.keep [3, 4, 6, 7, 8] (.seq (.region [⟨(.some 31), (.mov (.t 8)), .none⟩,
   ⟨(.some 32), (.nilchk (.t 31)), .none⟩,
   ⟨(.some 33), (.faddr 0 (.t 32)), .none⟩,
   ⟨(.some 34), (.slcA 16 1 (.t 33) .none .none), .none⟩,
   ⟨(.some 35), (.slcA 8 1 (.t 4) .none .none), .none⟩,
   ⟨(.some 36), (.copy 1 (.t 34) (.t 35)), .none⟩])
 c13_8))
abbrev c13_6 : PCode :=
 (.keep [3, 4, 5, 6, 7] (.seq (.region [⟨(.some 23), (.faddr 8 (.t 3)), .none⟩,
   ⟨(.some 24), (.load .false 1 (.t 23) .false), .none⟩,
   ⟨(.some 25), (.faddr 0 (.t 3)), .none⟩,
   ⟨(.some 26), (.load .true 4 (.t 25) .false), .none⟩,
   ⟨(.some 27), (.load .true 4 (.t 5) .false), .none⟩,
   ⟨(.some 28), (.callp 16 [(.t 26), (.t 27), (.c (.d (.int .i64 64)))]), .none⟩,
   ⟨(.some 29), (.bld [(.d (.int .i64 0)), (.d (.int .i64 0)), (.d (.int .i64 0)), (.d (.int .i64 0)), (.d (.int .i64 0)), (.d (.int .i64 0)), (.d (.int .i64 0)), (.d (.int .i64 0)), (.d (.int .i64 0)), (.d (.int .i64 0)), (.d (.int .i64 0)), (.d (.int .i64 0)), (.d (.int .i64 0)), (.d (.int .i64 0)), (.d (.int .i64 0)), (.d (.int .i64 0)), (.full []), (.full [])] [(16, (1, (.t 24))), (17, (1, (.t 28)))]), .none⟩,
   ⟨(.some 30), (.box 18 (.t 29)), .none⟩,
   ⟨(.some 8), (.mov (.t 30)), .none⟩])
 c13_7))
abbrev c13_3 : PCode :=
 (.keep [3, 4, 5, 6, 7] (.seq (.seq (.region [⟨(.some 16), (.faddr 0 (.t 3)), .none⟩,
   ⟨(.some 17), (.load .true 4 (.t 16) .false), .none⟩,
   ⟨(.some 18), (.load .true 4 (.t 5) .false), .none⟩,
   ⟨(.some 19), (.call0 27 [(.t 17), (.t 18)]), .none⟩,
   ⟨(.some 20), (.bin .neq (.t 19) (.c (.d (.int .i64 0)))), .none⟩])
 c13_4)
 c13_6))
abbrev c13_0 : PCode :=
 (.keep [3, 4, 5, 6, 7] (.seq (.seq (.region [⟨(.some 10), (.faddr 8 (.t 3)), .none⟩,
   ⟨(.some 11), (.load .false 1 (.t 10) .false), .none⟩,
   ⟨(.some 12), (.call0 12 [(.t 11)]), .none⟩,
   ⟨(.some 13), (.bin .neq (.t 12) (.c (.d (.int .i64 0)))), .none⟩])
 c13_1)
 c13_3))
abbrev c13_18 : PCode :=
 (.seq (.region [⟨(.some 89), (.load .true 8 (.t 4) .false), .none⟩,
   ⟨(.some 90), (.bld [(.d (.int .i64 0)), (.d (.int .i64 0)), (.d (.int .i64 0)), (.d (.flt .f64 0)), (.d (.str (bs []))), (.full [])] [(0, (1, (.c (.d (.int .i64 14)))))]), .none⟩,
   ⟨.none, (.store 8 (.t 6) (.t 89)), .none⟩,
   ⟨.none, (.store 6 (.t 7) (.t 90)), .none⟩])
 .ret)
abbrev c13_17 : PCode :=
 (.cond (.t 88)
  c13_18
  .skip)
abbrev c13_19 : PCode :=
 (.keep [6, 7] (.seq (.region [⟨(.some 91), (.load .true 8 (.t 6) .true), .none⟩,
   ⟨(.some 92), (.load .true 6 (.t 7) .true), .none⟩,
   ⟨.none, (.store 8 (.t 6) (.t 91)), .none⟩,
   ⟨.none, (.store 6 (.t 7) (.t 92)), .none⟩])
 .ret))
abbrev c13_16 : PCode :=
 (.keep [3, 4, 6, 7] (.seq (.seq (.region [⟨(.some 83), (.faddr 4 (.t 3)), .none⟩,
   ⟨(.some 84), (.load .true 4 (.t 83) .false), .none⟩,
   ⟨(.some 85), (.faddr 2 (.t 7)), .none⟩,
   ⟨(.some 86), (.load .true 4 (.t 85) .false), .none⟩,
   ⟨(.some 87), (.call0 27 [(.t 84), (.t 86)]), .none⟩,
   ⟨(.some 88), (.bin .neq (.t 87) (.c (.d (.int .i64 0)))), .none⟩])
 c13_17)
 c13_19))
abbrev c13_15 : PCode :=
 (.keep [3, 4, 6, 7, 8] (.seq (.region [⟨(.some 75), (.faddr 4 (.t 3)), .none⟩,
   ⟨(.some 76), (.load .true 4 (.t 75) .false), .none⟩,
   ⟨(.some 77), (.mov (.t 8)), .none⟩,
   ⟨(.some 78), (.nilchk (.t 77)), .none⟩,
   ⟨(.some 79), (.faddr 0 (.t 78)), .none⟩,
   ⟨(.some 80), (.slcA 16 1 (.t 79) (.some (.c (.d (.int .i64 8)))) .none), .none⟩,
   ⟨(.some 81), (.call0 18 [(.t 76), (.t 80)]), .none⟩,
   ⟨(.some 82), (.faddr 2 (.t 7)), .none⟩,
   ⟨.none, (.store 4 (.t 82) (.t 81)), .none⟩])
 c13_16))
abbrev c13_14 : PCode :=
 (.keep [3, 4, 6, 7, 8] (.seq (.region [⟨(.some 69), (.slcA 8 1 (.t 6) .none .none), .none⟩,
   ⟨(.some 70), (.mov (.t 8)), .none⟩,
   ⟨(.some 71), (.nilchk (.t 70)), .none⟩,
   ⟨(.some 72), (.faddr 0 (.t 71)), .none⟩,
   ⟨(.some 73), (.slcA 16 1 (.t 72) .none .none), .none⟩,
   ⟨(.some 74), (.copy 1 (.t 69) (.t 73)), .none⟩])
 c13_15))
abbrev c13_a : PCode :=
 (.seq (.region [⟨(.some 3), (.box 9 (.t 0)), .none⟩,
   ⟨(.some 4), (.box 8 (.t 1)), .none⟩,
   ⟨(.some 5), (.box 4 (.t 2)), .none⟩,
   ⟨(.some 6), (.alloc [(.d (.int .i64 0)), (.d (.int .i64 0)), (.d (.int .i64 0)), (.d (.int .i64 0)), (.d (.int .i64 0)), (.d (.int .i64 0)), (.d (.int .i64 0)), (.d (.int .i64 0))]), .none⟩,
   ⟨(.some 7), (.alloc [(.d (.int .i64 0)), (.d (.int .i64 0)), (.d (.int .i64 0)), (.d (.flt .f64 0)), (.d (.str (bs []))), (.full [])]), .none⟩])
 c13_0)
abbrev c13_i : List POper := [⟨(.some 61), (.mkfn 32 [] [(.t 4), (.t 6), (.t 7)]), .none⟩]
abbrev c13_p : PCode :=
 (.seq (.region [⟨(.some 62), (.mov (.t 8)), .none⟩,
   ⟨(.some 63), (.mov (.t 8)), .none⟩,
   ⟨(.some 64), (.nilchk (.t 63)), .none⟩,
   ⟨(.some 65), (.faddr 16 (.t 64)), .none⟩,
   ⟨(.some 66), (.load .false 1 (.t 65) .false), .none⟩,
   ⟨(.some 67), (.len (.t 66)), .none⟩,
   ⟨(.some 68), (.callE 33 [(.t 62), (.c (.d (.int .i64 0))), (.t 67)]), .none⟩])
 c13_14)
def c13 : DFun := ⟨c13_a, c13_i, (.t 61), c13_p, 93, [(.cell 6 .true 8), (.cell 7 .true 6)]⟩

theorem e32 : entered Try.prog 32 = true := by kernel_rfl
theorem k32 : compRec Try.prog (fun i => if i = 2 then 2 else 0) 32 = some c32.er := by kernel_rfl
theorem e13 : entered Try.prog 13 = true := by kernel_rfl
theorem k13 : compDfr Try.prog (fun i => if i = 5 then 1 else if i = 14 then 16 else if i = 19 then 2 else 0) 13 = some c13.er := by kernel_rfl


abbrev sc (S : List Int) : List AV := S.map fun n => .d (.int .i64 n)
theorem sc_sc (S : List Int) : (sc S).all AV.sc = true := List.all_eq_true.2 fun x hx => by obtain ⟨n, _, rfl⟩ := List.mem_map.1 hx; rfl
theorem ldv_all {cells : List AV} {n : Nat} (h : cells.length = n) : ldv true n (cells.drop 0) = some (.agg cells) := by
  unfold ldv
  subst h
  simp
theorem store_all {O cs : List AV} {n : Nat} (h : O.length = n) : O.take 0 ++ cs ++ O.drop (0 + n) = cs := by
  rw [List.take_zero, List.nil_append, Nat.zero_add, List.drop_of_length_le (by omega), List.append_nil]
/-- Nobody panics: nothing is turned. -/
theorem recNone (p4 p6 p7 : Nat) (st : St) : DCalls Try.prog GG 32 [ptrAt p4, ptrAt p6, ptrAt p7] none st (fun t => st.le t) := by
  refine dcalls_of k32 e32 (of_decide_eq_true rfl) ?_
  dsimp only [c32]
  refine pstartO fun t hL => ?_
  refine gor hL ?_; (repeat (clear hL; intro t hL; refine gor hL ?_))
  (refine gor hL ?_; (repeat (clear hL; intro t hL; refine gor hL ?_))); (with_reducible refine po_allocL hL rfl ?_); clear hL; intro p3 t hL
  refine gor hL ?_; (repeat (clear hL; intro t hL; refine gor hL ?_))
  exact ⟨fun _ h => (by cases h), hL.le⟩
theorem recSome (p4 p6 p7 : Nat) (S : List Int) (hS : S.length = 8) (O W : List AV) (hO : O.length = 8) (hW : W.length = 6) (e r : Int) (st t : St) (hL : Lay st [.box p4 (sc S), .box p6 O, .box p7 W] t) :
    DCalls Try.prog GG 32 [ptrAt p4, ptrAt p6, ptrAt p7] (some (panV e r)) t (fun t' => Lay st [.box p4 (sc S), .box p6 (sc S), .box p7 [i64 e, i64 r, i64 0, .d (.flt .f64 0), .d (.str (bs [])), .d (.sl [])]] t') := by
  refine dcalls_of k32 e32 (of_decide_eq_true rfl) ?_
  dsimp only [c32]
  refine gor hL ?_; (repeat (clear hL; intro t hL; refine gor hL ?_))
  (refine gor hL ?_; (repeat (clear hL; intro t hL; refine gor hL ?_))); (with_reducible refine po_allocL hL rfl ?_); clear hL; intro p3 t hL
  refine gor hL ?_; (repeat (clear hL; intro t hL; refine gor hL ?_))
  refine po_loadSt (H := [.box p4 (sc S), .box p3 [i64 e, i64 r, i64 0, .d (.flt .f64 0), .d (.str (bs [])), .d (.sl [])]]) (Stb.start _ (fun _ => .undef) t) hL rfl rfl (by repeat (first | exact Rem.head | apply Rem.tail)) (by (repeat (first | (with_reducible exact Pick.nil) | ((with_reducible apply Pick.cons); · (repeat (first | exact Rem.head | apply Rem.tail)))))) (ldv_all (by rw [List.length_map]; exact hS)) (fun hS1 => ?_)
  refine gor hL ?_; (repeat (clear hL; intro t hL; refine gor hL ?_))
  refine po_loadSt hS1 hL rfl rfl (by repeat (first | exact Rem.head | apply Rem.tail)) (by (repeat (first | (with_reducible exact Pick.nil) | ((with_reducible apply Pick.cons); · (repeat (first | exact Rem.head | apply Rem.tail)))))) rfl (fun hS2 => ?_)
  refine po_storeSt hS2 hL rfl rfl (by repeat (first | exact Rem.head | apply Rem.tail)) rfl ⟨by rw [← hS]; exact List.length_map _, sc_sc S⟩ (by omega) (store_all (O := O) (by omega)) (by (repeat (first | (with_reducible exact Pick.nil) | ((with_reducible apply Pick.cons); · (repeat (first | exact Rem.head | apply Rem.tail)))))) (fun t hL hS3 => ?_)
  refine po_storeSt hS3 hL rfl rfl (by repeat (first | exact Rem.head | apply Rem.tail)) rfl ⟨rfl, rfl⟩ (by omega) (store_all (O := W) (by omega)) (by (repeat (first | (with_reducible exact Pick.nil) | ((with_reducible apply Pick.cons); · (repeat (first | exact Rem.head | apply Rem.tail)))))) (fun t hL hS3 => ?_)
  refine gor hL ?_; (repeat (clear hL; intro t hL; refine gor hL ?_))
  exact ⟨fun _ h => (by cases h), hL.pk⟩
def playF (tk an : KT) (p : List Ins) (S : List Int) (v : VT) : List Int × Int × Int × VT :=
  if checkP p ≠ 0 then (S, 14, 0, .zero)
  else if VT.checkE tk v ≠ 0 then (S, 17, 0, .zero)
  else match go p (flatM 64 tk v) (p.length + 1) 0 p.length (reg0 S (flatM 64 tk v)) with
    | .fail e r => (S, e, r, .zero)
    | .done _ R => if VT.checkE an (buildV (R.drop 8) an) ≠ 0 then (S, 14, 0, .zero) else (R.take 8, 0, 0, buildV (R.drop 8) an)
    | .stuck => (S, 0, 0, .zero)

/-- What comes of it, as a value. -/
def playA (x : List Int × Int × Int × VT) : AV := .tup [.agg (sc x.1), .agg [.d (.int .i64 x.2.1), .d (.int .i64 x.2.2.1), .d (.int .i64 x.2.2.2.n), .d (.flt .f64 x.2.2.2.f), .d (.str x.2.2.2.s), .d (.sl (x.2.2.2.of.map VT.row))]]

theorem src_all {t : St} {b n : Nat} {S : List Int} (h : t.box b = some (sc S)) (hS : S.length = 8) (hn : min 8 n * 1 = 8 := by rfl) : srcCells t (min 8 n * 1) (.bsl b 0 8 8) = some (sc S) := by
  show (t.box b).map _ = some (sc S)
  rw [h, hn, Option.map_some, List.drop_zero, List.take_of_length_le (by rw [List.length_map]; omega)]
theorem newSt {t : St} : (Mx.new t).st = t := rfl
theorem DCalls.mono {P : Program} {G : Glob} {g : FuncId} {xs : List AV} {u : Option AV} {st : St} {R R' : St → Prop} (h : DCalls P G g xs u st R) (k : ∀ t, R t → R' t) : DCalls P G g xs u st R' :=
  ⟨h.1, fun M w vals hW hA um hum => (h.2 M w vals hW hA um hum).mono fun _ _ _ ⟨v, st', M', h1, h2, h3, h4, h5⟩ => ⟨v, st', M', h1, h2, h3, h4, k _ h5⟩⟩
theorem sc_weak (S : List Int) : (sc S).map AV.weak1 = sc S := by
  rw [List.map_map]; exact List.map_congr_left fun _ _ => rfl
theorem Lay.up {st t u : St} {L : List Item} (h : Lay st L t) (k : t.le u) : Lay st L u := ⟨h.le.trans k, fun x hx => Item.ok_le k (h.ok x hx), h.new, h.apart⟩
/-- The two results. -/
theorem play_pret {s : Slots} {st t : St} {L : List Item} {p6 p7 : Nat} {S : List Int} {W : List AV} (hL : Lay st L t) (h6 : s 6 = ptrAt p6) (h7 : s 7 = ptrAt p7) (hb6 : t.box p6 = some (sc S)) (hb7 : t.box p7 = some W) (hS : S.length = 8) (hW : W.length = 6) :
    pret [.cell 6 true 8, .cell 7 true 6] s t = some (.tup [.agg (sc S), .agg W]) :=
  pret_two (pres_cell h6 hb6 (ldv_all (by rw [List.length_map]; exact hS))) (pres_cell h7 hb7 (ldv_all hW))
theorem play_fin {s : Slots} {st t : St} {L : List Item} {p6 p7 : Nat} {S : List Int} {W : List AV} {x : List Int × Int × Int × VT} (hL : Lay st L t) (h6 : s 6 = ptrAt p6) (h7 : s 7 = ptrAt p7) (hb6 : t.box p6 = some (sc S)) (hb7 : t.box p7 = some W) (hS : S.length = 8)
    (hx : x.1 = S) (hw : W.map AV.weak1 = [.d (.int .i64 x.2.1), .d (.int .i64 x.2.2.1), .d (.int .i64 x.2.2.2.n), .d (.flt .f64 x.2.2.2.f), .d (.str x.2.2.2.s), .d (.sl (x.2.2.2.of.map VT.row))]) :
    pend [.cell 6 true 8, .cell 7 true 6] (fun r st' => st' = st ∧ r = playA x) s t := by
  have hWl : W.length = 6 := by have := congrArg List.length hw; simpa using this
  refine ⟨_, _, st, play_pret hL h6 h7 hb6 hb7 hS hWl, .inr rfl, hL.le, rfl, ?_⟩
  simp only [AV.weak, List.map_cons, List.map_nil, AV.weakA, sc_weak, hw, playA, hx]

theorem C13 (tk an : KT) (ht : tk.fit) (ha : an.fit) (hp1 : posd 20 an) (hc1 : cost 20 an < 2 ^ 60) (p : List Ins) (hp : ∀ x ∈ p, x.fit) (hpl : p.length < 2 ^ 36) (S : List Int) (hS : S.length = 8) (hSr : Rok S) (v : VT) (hv : v.fit) (hvc : VT.is 20 tk v = true → v.count < 2 ^ 40)
    (hns : checkP p = 0 → ∀ args R, R.length = 16 → go p args (p.length + 1) 0 p.length R ≠ .stuck) (hrg : ∀ args R b R', Rok R → go p args (p.length + 1) 0 p.length R = .done b R' → Rok R') :
    Pure (PCalls Try.prog GG) 13 [.agg [.d (.int .u8 tk.kind), .d (.int .i64 tk.most), .d (.sl (tk.names.map fun s => [.str s])), .d (.sl (tk.of.map KT.row)), .d (.int .u8 an.kind), .d (.int .i64 an.most), .d (.sl (an.names.map fun s => [.str s])), .d (.sl (an.of.map KT.row)), .d (.sl (p.map Ins.row))], .agg (sc S), v.av] (playA (playF tk an p S v)) := by
  intro st
  refine pcalls_of_dfr (F := c13) k13 (items := _) rfl e13 rfl rfl rfl (of_decide_eq_true rfl) ?_
  show pwp _ _ _ _ _ _
  dsimp only [c13]
  refine pstartL ?_
  intro t hL
  generalize hQ : pfin _ _ = Q
  refine gor hL ?_; (repeat (clear hL; intro t hL; refine gor hL ?_))
  (refine gor hL ?_; (repeat (clear hL; intro t hL; refine gor hL ?_))); refine po_boxA hL ?_; clear hL; intro p3 t hL
  refine gor hL ?_; (repeat (clear hL; intro t hL; refine gor hL ?_))
  refine po_boxL hL rfl (cells := sc S) rfl (by rw [List.length_map, hS]; rfl) ?_
  clear hL; intro p4 t hL
  rw [VT.av_eq]
  (refine gor hL ?_; (repeat (clear hL; intro t hL; refine gor hL ?_))); refine po_boxA hL ?_; clear hL; intro p5 t hL
  (refine gor hL ?_; (repeat (clear hL; intro t hL; refine gor hL ?_))); (with_reducible refine po_allocL hL rfl ?_); clear hL; intro p6 t hL
  (refine gor hL ?_; (repeat (clear hL; intro t hL; refine gor hL ?_))); (with_reducible refine po_allocL hL rfl ?_); clear hL; intro p7 t hL
  refine gor hL ?_; (repeat (clear hL; intro t hL; refine gor hL ?_))
  refine po_c0 (C12 p hp hpl) ?_
  refine gor hL ?_; (repeat (clear hL; intro t hL; refine gor hL ?_))
  refine pcond_b rfl (fun h1 => ?_) (fun h1 => ?_)
  · have h1' : checkP p ≠ 0 := by simpa using h1
    have hF : playF tk an p S v = (S, 14, 0, .zero) := if_pos h1'
    refine gor hL ?_; (repeat (clear hL; intro t hL; refine gor hL ?_))
    refine po_loadL hL rfl rfl (by repeat (first | exact Rem.head | apply Rem.tail)) (ldv_all (by rw [List.length_map]; exact hS)) ?_
    refine gor hL ?_; (repeat (clear hL; intro t hL; refine gor hL ?_))
    refine po_storeL hL rfl rfl (by repeat (first | exact Rem.head | apply Rem.tail)) (cs := sc S) rfl ⟨by rw [List.length_map]; exact hS, sc_sc S⟩ (by decide) (store_all (n := 8) rfl) (fun _ _ _ h => h.elim) ?_
    clear hL; intro t hL
    refine gor hL ?_; (repeat (clear hL; intro t hL; refine gor hL ?_))
    rw [← hQ]
    exact play_fin hL rfl rfl hL.bk hL.bk hS (by first | rfl | rw [hF]) (by first | rfl | (rw [hF]; rfl))
  have h1' : checkP p = 0 := by simpa using h1
  refine gor hL ?_; (repeat (clear hL; intro t hL; refine gor hL ?_))
  refine po_c0 (C27 tk v ht hv) ?_ (by rw [VT.av_eq, KT.av_eq]; rfl)
  refine gor hL ?_; (repeat (clear hL; intro t hL; refine gor hL ?_))
  refine pcond_b rfl (fun h2 => ?_) (fun h2 => ?_)
  · have h2' : VT.checkE tk v ≠ 0 := by simpa using h2
    have hF : playF tk an p S v = (S, 17, 0, .zero) := (if_neg (fun h => h h1')).trans (if_pos h2')
    refine gor hL ?_; (repeat (clear hL; intro t hL; refine gor hL ?_))
    refine po_loadL hL rfl rfl (by repeat (first | exact Rem.head | apply Rem.tail)) (ldv_all (by rw [List.length_map]; exact hS)) ?_
    refine gor hL ?_; (repeat (clear hL; intro t hL; refine gor hL ?_))
    refine po_storeL hL rfl rfl (by repeat (first | exact Rem.head | apply Rem.tail)) (cs := sc S) rfl ⟨by rw [List.length_map]; exact hS, sc_sc S⟩ (by decide) (store_all (n := 8) rfl) (fun _ _ _ h => h.elim) ?_
    clear hL; intro t hL
    refine gor hL ?_; (repeat (clear hL; intro t hL; refine gor hL ?_))
    rw [← hQ]
    exact play_fin hL rfl rfl hL.bk hL.bk hS (by first | rfl | rw [hF]) (by first | rfl | (rw [hF]; rfl))
  have h2' : VT.checkE tk v = 0 := by simpa using h2
  refine gor hL ?_; (repeat (clear hL; intro t hL; refine gor hL ?_))
  refine po_cp (C16 64 tk v ht hv hvc) ?_ (by rw [VT.av_eq, KT.av_eq]; rfl)
  have hF1 : playF tk an p S v = _ := (if_neg (fun h => h h1')).trans (if_neg (fun h => h h2'))
  generalize hargs : flatM 64 tk v = args at *
  (refine gor hL ?_; (repeat (clear hL; intro t hL; refine gor hL ?_))); refine po_boxA hL ?_; clear hL; intro pm t hL
  refine gor hL ?_; (repeat (clear hL; intro t hL; refine gor hL ?_))
  refine po_copyL (o := 0) (n := 16) (cap := 16) (n' := 8) (v := .bsl p4 0 8 8) hL rfl rfl (by repeat (first | exact Rem.head | apply Rem.tail)) rfl rfl (cs := sc S) (out := rcells (regk S args 0) p args) (src_all hL.bk hS) ⟨by rw [List.length_map]; exact hS, sc_sc S⟩ (of_decide_eq_true rfl) (fun r h => by cases h) (by rw [regk_0]; simp [rcells, i64s]) ?_
  clear hL; intro t hL
  refine gor hL ?_; (repeat (clear hL; intro t hL; refine gor hL ?_))
  simp only [newSt]
  (apply prangeJ (8) (by omega) (fun k t => Lay st [.box pm (rcells (regk S args k) p args), .box p3 [.d (.int .u8 tk.kind), .d (.int .i64 tk.most), .d (.sl (tk.names.map fun s => [.str s])), .d (.sl (tk.of.map KT.row)), .d (.int .u8 an.kind), .d (.int .i64 an.most), .d (.sl (an.names.map fun s => [.str s])), .d (.sl (an.of.map KT.row)), .d (.sl (p.map Ins.row))], .box p4 (sc S), .box p6 [.d (.int .i64 0), .d (.int .i64 0), .d (.int .i64 0), .d (.int .i64 0), .d (.int .i64 0), .d (.int .i64 0), .d (.int .i64 0), .d (.int .i64 0)], .box p7 [.d (.int .i64 0), .d (.int .i64 0), .d (.int .i64 0), .d (.flt .f64 0), .d (.str (bs [])), .full []]] t)); (· exact trimA); (· exact fun _ => rfl)
  · exact hL.pk
  rotate_left
  · intro k hk t hL
    have hkl := regk_len hS args k
    refine pblock ?_
    refine gor hL ?_; (repeat (clear hL; intro t hL; refine gor hL ?_))
    refine rargsA hL hkl ?_
    refine gor hL ?_; (repeat (clear hL; intro t hL; refine gor hL ?_))
    refine pcond_b rfl (fun hb => ?_) (fun hb => ?_)
    · have hb' : k < args.length := by simp at hb; omega
      obtain ⟨y, hy, _⟩ := elem_at hb'
      have e8 : IntKind.i64.wrap (8 + (k : Int)) = ((8 + k : Nat) : Int) := by rw [IntWalk.i64_in _ (by omega)]; omega
      refine gor hL ?_; (repeat (clear hL; intro t hL; refine gor hL ?_))
      refine rargsA hL hkl ?_
      refine gor hL ?_; (repeat (clear hL; intro t hL; refine gor hL ?_))
      refine gnm ?_; rw [e8]
      refine riaA (n := ((8 + k : Nat) : Int)) (by omega) ?_
      refine rstoreA (k := ((8 + k : Nat) : Int)) hL hkl (by omega) ?_
      clear hL; intro t hL
      rw [show (((8 + k : Nat) : Int)).toNat = 8 + k from rfl, regk_set hS hk (by rw [List.getD_eq_getElem?_getD, hy]; rfl)] at hL
      refine gor hL ?_; (repeat (clear hL; intro t hL; refine gor hL ?_))
      exact ⟨hL.pk, tr2⟩
    · have hb' : args.length ≤ k := by simp at hb; omega
      rw [regk_skip hb'] at hL
      refine gor hL ?_; (repeat (clear hL; intro t hL; refine gor hL ?_))
      exact ⟨hL.pk, tr2⟩
  intro t hL
  rw [regk_8] at hL
  have hR0 := reg0_len hS args
  have hal : args.length ≤ 64 := by rw [← hargs]; unfold flatM; split <;> simp <;> omega
  refine gor hL ?_; (repeat (clear hL; intro t hL; refine gor hL ?_))
  obtain ⟨st1, hl1, hl2⟩ := Lay.split (F := [.box pm (rcells (reg0 S args) p args)]) hL
  generalize hout : go p args (p.length + 1) 0 p.length (reg0 S args) = o at hF1
  have hnst : o ≠ .stuck := by rw [← hout]; exact hns h1' args _ hR0
  refine ⟨PE.at (fun r => ∃ e n, o = .fail e n ∧ r = panV e n) st1, 32, [], [.ptr p4 0, .ptr p6 0, .ptr p7 0], rfl, e32, ?_, ?_⟩
  rotate_left
  · rintro r u ⟨⟨e, n, ho, rfl⟩, hu⟩
    have hL3 : Lay st [.box p4 (sc S), .box p6 [.d (.int .i64 0), .d (.int .i64 0), .d (.int .i64 0), .d (.int .i64 0), .d (.int .i64 0), .d (.int .i64 0), .d (.int .i64 0), .d (.int .i64 0)], .box p7 [.d (.int .i64 0), .d (.int .i64 0), .d (.int .i64 0), .d (.flt .f64 0), .d (.str (bs [])), .full []]] u := (hl1.up hu).pick (by (repeat (first | (with_reducible exact Pick.nil) | ((with_reducible apply Pick.cons); · (repeat (first | exact Rem.head | apply Rem.tail))))))
    refine (recSome p4 p6 p7 S hS _ _ rfl rfl e n st u hL3).mono fun u' hL => ?_
    have hF : playF tk an p S v = (S, e, n, .zero) := by rw [hF1, ho]
    exact play_fin hL rfl rfl hL.bk hL.bk hS (by rw [hF]) (by rw [hF]; rfl)
  dsimp only
  -- nobody panics
  have done : ∀ (s : Slots) (t : St) (S' : List Int) (W : List AV), s 6 = ptrAt p6 → s 7 = ptrAt p7 → Lay st [.box p6 (sc S'), .box p7 W] t → S'.length = 8 → (playF tk an p S v).1 = S' →
      W.map AV.weak1 = [.d (.int .i64 (playF tk an p S v).2.1), .d (.int .i64 (playF tk an p S v).2.2.1), .d (.int .i64 (playF tk an p S v).2.2.2.n), .d (.flt .f64 (playF tk an p S v).2.2.2.f), .d (.str (playF tk an p S v).2.2.2.s), .d (.sl ((playF tk an p S v).2.2.2.of.map VT.row))] →
      (∀ id, PEx.ret ≠ .exit id) ∧ DCalls Try.prog GG 32 ([].map AV.d ++ [Dat.ptr p4 0, Dat.ptr p6 0, Dat.ptr p7 0].map AV.d) none t (fun u => pend [.cell 6 true 8, .cell 7 true 6] (fun r st' => st' = st ∧ r = playA (playF tk an p S v)) s u) := fun s t S' W h6 h7 hL hS' hx hw =>
    ⟨fun _ h => (by cases h), (recNone p4 p6 p7 t).mono fun u hu => play_fin (hL.up hu) h6 h7 ((hL.up hu).bx (Rem.head)) ((hL.up hu).bx (Rem.tail Rem.head)) hS' hx hw⟩
  generalize hQ2 : (fun (e : PEx) (s' : Slots) (t' : St) => (∀ id, e ≠ .exit id) ∧ DCalls Try.prog GG 32 _ none t' _) = Q2
  refine gor hL ?_; (repeat (clear hL; intro t hL; refine gor hL ?_))
  refine rprogA hL hR0 ?_
  refine gor hL ?_; (repeat (clear hL; intro t hL; refine gor hL ?_))
  have hc := runC p hp (by omega) args (by omega) (fun r => ∃ e n, o = .fail e n ∧ r = panV e n) st1 pm (p.length + 1) 0 p.length _ o hout hnst (fun e r h => ⟨e, r, h, rfl⟩) hR0 (by omega) (by omega) st1 t (.refl _) hl2
  refine po_callE hc ?_
  clear hL hc
  rintro r t ⟨b, R, rfl, ho, hR, hl3⟩
  have hL := hl1.join hl3
  have hRr : Rok R := hrg args _ b R (reg0_ok hSr (flatM_ok hv hargs)) (hout.trans ho)
  rw [ho] at hF1
  simp only at hF1
  refine gor hL ?_; (repeat (clear hL; intro t hL; refine gor hL ?_))
  have hR8 : (R.take 8).length = 8 := by simp [hR]
  refine pjoinO (fun s u => s = put (put (put (put (put (fun _ => .undef) (some 8) (.elt (rdats R p args))) (some 7) (ptrAt p7)) (some 6) (ptrAt p6)) (some 4) (ptrAt p4)) (some 3) (ptrAt p3) ∧ Lay st [.box p3 [.d (.int .u8 tk.kind), .d (.int .i64 tk.most), .d (.sl (tk.names.map fun s => [.str s])), .d (.sl (tk.of.map KT.row)), .d (.int .u8 an.kind), .d (.int .i64 an.most), .d (.sl (an.names.map fun s => [.str s])), .d (.sl (an.of.map KT.row)), .d (.sl (p.map Ins.row))], .box p4 (sc S), .box p6 (sc (R.take 8)), .box p7 [.d (.int .i64 0), .d (.int .i64 0), .d (.int .i64 0), .d (.flt .f64 0), .d (.str (bs [])), .full []]] u) ?_ ?_
  · refine po_copyL (o := 0) (n := 8) (cap := 8) (n' := 16) (v := .bsl pm 0 16 16) hL rfl rfl (by repeat (first | exact Rem.head | apply Rem.tail)) rfl rfl (cs := sc (R.take 8)) (out := sc (R.take 8)) (by show (t.box pm).map _ = _; rw [hL.bk]; exact congrArg some (regs_take p args hR)) ⟨by rw [List.length_map]; exact hR8, sc_sc _⟩ (of_decide_eq_true rfl) (fun r h => by cases h) (by simp) ?_
    clear hL; intro t hL
    refine pnil ?_
    have hLm := hL.rem (x := .box pm (rcells R p args)) (by repeat (first | exact Rem.head | apply Rem.tail))
    have n3 : p3 ≠ pm := hLm.neq (by repeat (first | exact Rem.head | apply Rem.tail))
    have n4 : p4 ≠ pm := hLm.neq (by repeat (first | exact Rem.head | apply Rem.tail))
    have n6 : p6 ≠ pm := hLm.neq (by repeat (first | exact Rem.head | apply Rem.tail))
    have n7 : p7 ≠ pm := hLm.neq (by repeat (first | exact Rem.head | apply Rem.tail))
    obtain ⟨t2, hf, hL2⟩ := hLm.elt (rcells_weak R p args)
    refine ⟨_, t2, hf _, ?_, hL2.pick (by (repeat (first | (with_reducible exact Pick.nil) | ((with_reducible apply Pick.cons); · (repeat (first | exact Rem.head | apply Rem.tail))))))⟩
    have e1 : ∀ a b c d e : AV, trim (some [3, 4, 6, 7, 8]) (put (put (put (put (put (put (put (put (put (put (put (fun _ => .undef) (some 8) (ptrAt pm)) (some 7) (ptrAt p7)) (some 6) (ptrAt p6)) (some 4) (ptrAt p4)) (some 3) (ptrAt p3)) (some 69) a) (some 70) b) (some 71) c) (some 72) d) (some 73) e) (some 74) (i64 ((8 : Nat) : Int))) = put (put (put (put (put (fun _ => .undef) (some 8) (ptrAt pm)) (some 7) (ptrAt p7)) (some 6) (ptrAt p6)) (some 4) (ptrAt p4)) (some 3) (ptrAt p3) := fun _ _ _ _ _ => by simp +decide only [pvc, pvi, pvt]
    refine (congrArg (fun (z : Slots) => fun i => AV.elt1 pm (rdats R p args) (z i)) (e1 _ _ _ _ _)).trans ?_
    simp only [elt_put, elt_undef, elt_hit]
    rw [elt_miss _ n3, elt_miss _ n4, elt_miss _ n6, elt_miss _ n7]
  clear hL
  rintro s t ⟨rfl, hL⟩
  refine gor hL ?_; (repeat (clear hL; intro t hL; refine gor hL ?_))
  refine po rfl (elt_regs (R := R) (p := p) (args := args) rfl hR) ?_
  refine po_c0 ((C18 (R.drop 8) (by rw [List.length_drop]; omega) (fun x hx => hRr x (List.mem_of_mem_drop hx)) an ha hp1 hc1).may _) ?_ (by rw [KT.av_eq]; rfl)
  have hbf := buildV_fit (l := R.drop 8) (fun x hx => hRr x (List.mem_of_mem_drop hx)) ha
  generalize hbv : buildV (R.drop 8) an = o' at *
  rw [VT.av_eq]
  refine gor hL ?_; (repeat (clear hL; intro t hL; refine gor hL ?_))
  refine po_c0 ((C27 an o' ha hbf).may _) ?_ (by rw [VT.av_eq, KT.av_eq]; rfl)
  refine gor hL ?_; (repeat (clear hL; intro t hL; refine gor hL ?_))
  refine pcond_b rfl (fun h3 => ?_) (fun h3 => ?_)
  · have h3' : VT.checkE an o' ≠ 0 := by simpa using h3
    have hF : playF tk an p S v = (S, 14, 0, .zero) := hF1.trans (if_pos h3')
    refine gor hL ?_; (repeat (clear hL; intro t hL; refine gor hL ?_))
    refine po_loadL hL rfl rfl (by repeat (first | exact Rem.head | apply Rem.tail)) (ldv_all (by rw [List.length_map]; exact hS)) ?_
    refine gor hL ?_; (repeat (clear hL; intro t hL; refine gor hL ?_))
    refine po_storeL hL rfl rfl (by repeat (first | exact Rem.head | apply Rem.tail)) (cs := sc S) rfl ⟨by rw [List.length_map]; exact hS, sc_sc S⟩ (by rw [List.length_map, hR8]; decide) (store_all (n := 8) (by rw [List.length_map]; exact hR8)) (fun _ _ _ h => h.elim) ?_
    clear hL; intro t hL
    refine gor hL ?_; (repeat (clear hL; intro t hL; refine gor hL ?_))
    rw [← hQ2]
    exact done _ t S _ rfl rfl (hL.pick (by (repeat (first | (with_reducible exact Pick.nil) | ((with_reducible apply Pick.cons); · (repeat (first | exact Rem.head | apply Rem.tail))))))) hS (by rw [hF]) (by rw [hF]; rfl)
  have h3' : ¬ VT.checkE an o' ≠ 0 := by simpa using h3
  have hF : playF tk an p S v = (R.take 8, 0, 0, o') := hF1.trans (if_neg h3')
  refine gor hL ?_; (repeat (clear hL; intro t hL; refine gor hL ?_))
  refine po_loadSt (H := [.box p6 (sc (R.take 8)), .box p7 [.d (.int .i64 0), .d (.int .i64 0), .d (.int .i64 o'.n), .d (.flt .f64 o'.f), .d (.str o'.s), .d (.sl (o'.of.map VT.row))]]) (Stb.start _ (fun _ => .undef) t) hL rfl rfl (by repeat (first | exact Rem.head | apply Rem.tail)) (by (repeat (first | (with_reducible exact Pick.nil) | ((with_reducible apply Pick.cons); · (repeat (first | exact Rem.head | apply Rem.tail)))))) (ldv_all (by rw [List.length_map]; exact hR8)) (fun hS1 => ?_)
  refine po_loadSt hS1 hL rfl rfl (by repeat (first | exact Rem.head | apply Rem.tail)) (by (repeat (first | (with_reducible exact Pick.nil) | ((with_reducible apply Pick.cons); · (repeat (first | exact Rem.head | apply Rem.tail)))))) rfl (fun hS2 => ?_)
  refine po_storeSame (t := t) (cells := sc (R.take 8)) (cs := sc (R.take 8)) rfl rfl hL.bk rfl ⟨by rw [List.length_map]; exact hR8, sc_sc _⟩ (by rw [List.length_map, hR8]; decide) (store_all (n := 8) (by rw [List.length_map]; exact hR8)) (hS2.holds hL (by (repeat (first | (with_reducible exact Pick.nil) | ((with_reducible apply Pick.cons); · (repeat (first | exact Rem.head | apply Rem.tail))))))) ?_
  refine po_storeSame (t := t) rfl rfl hL.bk rfl ⟨rfl, rfl⟩ (of_decide_eq_true rfl) rfl ((hS2.past hL (by (repeat (first | (with_reducible exact Pick.nil) | ((with_reducible apply Pick.cons); · (repeat (first | exact Rem.head | apply Rem.tail)))))) t).holds hL (by (repeat (first | (with_reducible exact Pick.nil) | ((with_reducible apply Pick.cons); · (repeat (first | exact Rem.head | apply Rem.tail))))))) ?_
  refine gor hL ?_; (repeat (clear hL; intro t hL; refine gor hL ?_))
  rw [← hQ2]
  exact done _ t (R.take 8) _ rfl rfl (hL.pick (by (repeat (first | (with_reducible exact Pick.nil) | ((with_reducible apply Pick.cons); · (repeat (first | exact Rem.head | apply Rem.tail))))))) hR8 (by rw [hF]) (by rw [hF]; rfl)
end Go.Pv
