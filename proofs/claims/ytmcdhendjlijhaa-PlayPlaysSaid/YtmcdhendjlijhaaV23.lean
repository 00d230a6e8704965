/- Functions of the program, by value. No condition. -/
import Derived.Test.YtmcdhendjlijhaaV22
import Derived.Test.YtmcdhendjlijhaaX1
namespace Go.Pv
open Go.Proofs
set_option maxRecDepth 100000
set_option maxHeartbeats 8000000

/-- prompter/prompterlaw11.Awake -/
abbrev c9_2 : PCode :=
 (.keep [2, 3] (.seq (.region [⟨(.some 15), (.iaddrA 8 1 (.t 2) (.c (.d (.int .i64 0)))), .none⟩,
   ⟨(.some 16), (.load .false 1 (.t 15) .false), .none⟩,
   ⟨(.some 17), (.bin .eql (.t 16) (.c (.d (.int .i64 8)))), .none⟩,
   ⟨(.some 18), (.mov (.t 17)), .none⟩,
   ⟨(.some 19), (.faddr 0 (.t 3)), (.some (18, .true))⟩,
   ⟨(.some 20), (.load .false 1 (.t 19) .false), (.some (18, .true))⟩,
   ⟨(.some 21), (.bin .eql (.t 20) (.c (.d (.int .i64 0)))), (.some (18, .true))⟩,
   ⟨(.some 22), (.pick (.t 18) (.t 21) (.c (.d (.bool .false)))), .none⟩,
   ⟨(.some 23), (.mov (.t 22)), .none⟩,
   ⟨(.some 24), (.faddr 2 (.t 3)), (.some (23, .true))⟩,
   ⟨(.some 25), (.faddr 0 (.t 24)), (.some (23, .true))⟩,
   ⟨(.some 26), (.load .false 1 (.t 25) .false), (.some (23, .true))⟩,
   ⟨(.some 27), (.bin .eql (.t 26) (.c (.d (.int .i64 1)))), (.some (23, .true))⟩,
   ⟨(.some 28), (.pick (.t 23) (.t 27) (.c (.d (.bool .false)))), .none⟩,
   ⟨(.some 0), (.mov (.t 28)), .none⟩])
 .ret))
abbrev c9_1 : PCode :=
 (.keep [1] (.seq (.region [⟨(.some 9), (.load .true 9 (.t 1) .false), .none⟩,
   ⟨(.some 10), (.bld [(.d (.int .i64 0)), (.d (.int .i64 0)), (.d (.int .i64 0)), (.d (.int .i64 0)), (.d (.int .i64 0)), (.d (.int .i64 0)), (.d (.int .i64 0)), (.d (.int .i64 0))] [(0, (1, (.c (.d (.int .i64 3)))))]), .none⟩,
   ⟨(.some 11), (.bld [(.d (.int .i64 0)), (.d (.flt .f64 0)), (.d (.str (bs []))), (.full [])] [(0, (1, (.c (.d (.int .i64 5)))))]), .none⟩,
   ⟨(.some 12), (.call0 13 [(.t 9), (.t 10), (.t 11)]), .none⟩,
   ⟨(.some 8), (.mov (.t 12)), .none⟩,
   ⟨(.some 13), (.ext (.t 8) 0), .none⟩,
   ⟨(.some 14), (.ext (.t 8) 1), .none⟩,
   ⟨(.some 2), (.alloc [(.d (.int .i64 0)), (.d (.int .i64 0)), (.d (.int .i64 0)), (.d (.int .i64 0)), (.d (.int .i64 0)), (.d (.int .i64 0)), (.d (.int .i64 0)), (.d (.int .i64 0))]), .none⟩,
   ⟨(.some 3), (.alloc [(.d (.int .i64 0)), (.d (.int .i64 0)), (.d (.int .i64 0)), (.d (.flt .f64 0)), (.d (.str (bs []))), (.full [])]), .none⟩,
   ⟨.none, (.store 8 (.t 2) (.t 13)), .none⟩,
   ⟨.none, (.store 6 (.t 3) (.t 14)), .none⟩])
 c9_2))
abbrev c9_0 : PCode :=
 (.seq (.region [⟨(.some 4), (.bld [(.d (.int .u8 0)), (.d (.int .i64 0)), (.full []), (.full [])] [(0, (1, (.c (.d (.int .u8 1)))))]), .none⟩,
   ⟨(.some 5), (.bld [(.d (.int .u8 0)), (.d (.int .u8 0)), (.d (.int .u8 0)), (.d (.int .u8 0)), (.d (.int .i16 0))] [(0, (1, (.c (.d (.int .u8 3))))), (3, (1, (.c (.d (.int .u8 8)))))]), .none⟩,
   ⟨(.some 6), (.bsl 5 [(.t 5)]), .none⟩,
   ⟨(.some 7), (.bld [(.d (.int .u8 0)), (.d (.int .i64 0)), (.full []), (.full []), (.d (.int .u8 0)), (.d (.int .i64 0)), (.full []), (.full []), (.full [])] [(0, (4, (.t 4))), (8, (1, (.t 6)))]), .none⟩,
   ⟨(.some 1), (.alloc [(.d (.int .u8 0)), (.d (.int .i64 0)), (.full []), (.full []), (.d (.int .u8 0)), (.d (.int .i64 0)), (.full []), (.full []), (.full [])]), .none⟩,
   ⟨.none, (.store 9 (.t 1) (.t 7)), .none⟩])
 c9_1)
def c9 : PFun := ⟨
 (.seq (.region [⟨(.some 0), (.mov (.c (.d (.bool .false)))), .none⟩])
 c9_0),
 0, 29, [(.tmp 0)]⟩

/-- (prompter/prompterlaw11.Small).Light -/
abbrev c14_0 : PCode :=
 (.seq (.region [⟨(.some 3), (.faddr 0 (.t 1)), .none⟩,
   ⟨(.some 4), (.load .true 3 (.t 3) .false), .none⟩,
   ⟨(.some 5), (.call0 34 [(.t 4), (.c (.d (.int .i64 4)))]), .none⟩,
   ⟨(.some 6), (.mov (.t 5)), .none⟩,
   ⟨(.some 7), (.faddr 3 (.t 1)), (.some (6, .true))⟩,
   ⟨(.some 8), (.load .true 3 (.t 7) .false), (.some (6, .true))⟩,
   ⟨(.some 9), (.call0 34 [(.t 8), (.c (.d (.int .i64 4)))]), (.some (6, .true))⟩,
   ⟨(.some 10), (.pick (.t 6) (.t 9) (.c (.d (.bool .false)))), .none⟩,
   ⟨(.some 11), (.mov (.t 10)), .none⟩,
   ⟨(.some 12), (.faddr 6 (.t 1)), (.some (11, .true))⟩,
   ⟨(.some 13), (.load .false 1 (.t 12) .false), (.some (11, .true))⟩,
   ⟨(.some 14), (.len (.t 13)), (.some (11, .true))⟩,
   ⟨(.some 15), (.bin .leq (.t 14) (.c (.d (.int .i64 30)))), (.some (11, .true))⟩,
   ⟨(.some 16), (.pick (.t 11) (.t 15) (.c (.d (.bool .false)))), .none⟩,
   ⟨(.some 17), (.mov (.t 16)), .none⟩,
   ⟨(.some 18), (.faddr 15 (.t 1)), (.some (17, .true))⟩,
   ⟨(.some 19), (.load .false 1 (.t 18) .false), (.some (17, .true))⟩,
   ⟨(.some 20), (.len (.t 19)), (.some (17, .true))⟩,
   ⟨(.some 21), (.bin .leq (.t 20) (.c (.d (.int .i64 40)))), (.some (17, .true))⟩,
   ⟨(.some 22), (.pick (.t 17) (.t 21) (.c (.d (.bool .false)))), .none⟩,
   ⟨(.some 2), (.mov (.t 22)), .none⟩])
 .ret)
def c14 : PFun := ⟨
 (.seq (.region [⟨(.some 1), (.box 16 (.t 0)), .none⟩,
   ⟨(.some 2), (.mov (.c (.d (.bool .false)))), .none⟩])
 c14_0),
 1, 23, [(.tmp 2)]⟩

/-- (prompter/prompterlaw11.Small).Body -/
abbrev c15_1 : PCode :=
 (.keep [1, 2, 3, 4] (.seq (.region [⟨(.some 15), (.load .true 9 (.t 4) .false), .none⟩,
   ⟨(.some 16), (.faddr 0 (.t 4)), .none⟩,
   ⟨(.some 17), (.load .true 4 (.t 16) .false), .none⟩,
   ⟨(.some 18), (.faddr 15 (.t 1)), .none⟩,
   ⟨(.some 19), (.load .false 1 (.t 18) .false), .none⟩,
   ⟨(.some 20), (.callp 18 [(.t 17), (.t 19)]), .none⟩,
   ⟨.none, (.store 9 (.t 2) (.t 15)), .none⟩,
   ⟨.none, (.store 4 (.t 3) (.t 20)), .none⟩])
 .ret))
abbrev c15_0 : PCode :=
 (.keep [1, 2, 3] (.seq (.region [⟨(.some 5), (.faddr 0 (.t 1)), .none⟩,
   ⟨(.some 6), (.load .true 3 (.t 5) .false), .none⟩,
   ⟨(.some 7), (.callp 35 [(.t 6)]), .none⟩,
   ⟨(.some 8), (.faddr 3 (.t 1)), .none⟩,
   ⟨(.some 9), (.load .true 3 (.t 8) .false), .none⟩,
   ⟨(.some 10), (.callp 35 [(.t 9)]), .none⟩,
   ⟨(.some 11), (.faddr 6 (.t 1)), .none⟩,
   ⟨(.some 12), (.load .false 1 (.t 11) .false), .none⟩,
   ⟨(.some 13), (.callp 11 [(.t 12)]), .none⟩,
   ⟨(.some 14), (.bld [(.d (.int .u8 0)), (.d (.int .i64 0)), (.full []), (.full []), (.d (.int .u8 0)), (.d (.int .i64 0)), (.full []), (.full []), (.full [])] [(0, (4, (.t 7))), (4, (4, (.t 10))), (8, (1, (.t 13)))]), .none⟩,
   ⟨(.some 4), (.alloc [(.d (.int .u8 0)), (.d (.int .i64 0)), (.full []), (.full []), (.d (.int .u8 0)), (.d (.int .i64 0)), (.full []), (.full []), (.full [])]), .none⟩,
   ⟨.none, (.store 9 (.t 4) (.t 14)), .none⟩])
 c15_1))
def c15 : PFun := ⟨
 (.seq (.region [⟨(.some 1), (.box 16 (.t 0)), .none⟩,
   ⟨(.some 2), (.alloc [(.d (.int .u8 0)), (.d (.int .i64 0)), (.full []), (.full []), (.d (.int .u8 0)), (.d (.int .i64 0)), (.full []), (.full []), (.full [])]), .none⟩,
   ⟨(.some 3), (.alloc [(.d (.int .i64 0)), (.d (.flt .f64 0)), (.d (.str (bs []))), (.full [])]), .none⟩])
 c15_0),
 1, 21, [(.cell 2 .true 9), (.cell 3 .true 4)]⟩

/-- prompter/prompterlaw11.PlayNone -/
abbrev c5_2 : PCode :=
 (.seq (.region [⟨(.some 2), (.mov (.c (.d (.bool .false)))), .none⟩])
 .ret)
abbrev c5_1 : PCode :=
 (.cond (.t 9)
  c5_2
  .skip)
abbrev c5_5 : PCode :=
 (.seq (.region [⟨(.some 2), (.mov (.c (.d (.bool .true)))), .none⟩])
 .ret)
abbrev c5_4 : PCode :=
 (.cond (.t 12)
  c5_5
  .skip)
abbrev c5_11 : PCode :=
 (.keep [1, 3, 5, 6, 7] (.seq (.region [⟨(.some 33), (.load .true 8 (.t 5) .false), .none⟩,
   ⟨(.some 34), (.faddr 7 (.t 1)), .none⟩,
   ⟨(.some 35), (.load .true 8 (.t 34) .false), .none⟩,
   ⟨(.some 36), (.eqAgg .false [1, 1, 1, 1, 1, 1, 1, 1] (.t 33) (.t 35)), .none⟩,
   ⟨(.some 37), (.mov (.t 36)), .none⟩,
   ⟨(.some 38), (.faddr 0 (.t 6)), (.some (37, .true))⟩,
   ⟨(.some 39), (.load .false 1 (.t 38) .false), (.some (37, .true))⟩,
   ⟨(.some 40), (.bin .eql (.t 39) (.c (.d (.int .i64 0)))), (.some (37, .true))⟩,
   ⟨(.some 41), (.pick (.t 37) (.t 40) (.c (.d (.bool .false)))), .none⟩,
   ⟨(.some 42), (.mov (.t 41)), .none⟩,
   ⟨(.some 43), (.faddr 2 (.t 6)), (.some (42, .true))⟩,
   ⟨(.some 44), (.load .true 4 (.t 43) .false), (.some (42, .true))⟩,
   ⟨(.some 45), (.faddr 4 (.t 3)), (.some (42, .true))⟩,
   ⟨(.some 46), (.load .true 4 (.t 45) .false), (.some (42, .true))⟩,
   ⟨(.some 47), (.slcA 8 1 (.t 7) .none .none), (.some (42, .true))⟩,
   ⟨(.some 48), (.callp 18 [(.t 46), (.t 47)]), (.some (42, .true))⟩,
   ⟨(.some 49), (.callp 17 [(.t 44), (.t 48)]), (.some (42, .true))⟩,
   ⟨(.some 50), (.pick (.t 42) (.t 49) (.c (.d (.bool .false)))), .none⟩,
   ⟨(.some 2), (.mov (.t 50)), .none⟩])
 .ret))
abbrev c5_10 : PCode :=
 (.seq (.region [⟨(.some 27), (.slcA 8 1 (.t 7) .none .none), .none⟩,
   ⟨(.some 28), (.faddr 0 (.t 3)), .none⟩,
   ⟨(.some 29), (.load .true 4 (.t 28) .false), .none⟩,
   ⟨(.some 30), (.load .true 4 (.t 4) .false), .none⟩,
   ⟨(.some 31), (.call0 16 [(.t 29), (.t 30), (.c (.d (.int .i64 8)))]), .none⟩,
   ⟨(.some 32), (.copy 1 (.t 27) (.t 31)), .none⟩])
 c5_11)
abbrev c5_9 : PCode :=
 (.keep [1, 3, 4, 5, 6] (.seq (.region [⟨(.some 7), (.alloc [(.d (.int .i64 0)), (.d (.int .i64 0)), (.d (.int .i64 0)), (.d (.int .i64 0)), (.d (.int .i64 0)), (.d (.int .i64 0)), (.d (.int .i64 0)), (.d (.int .i64 0))]), .none⟩])
 c5_10))
abbrev c5_8 : PCode :=
 (.seq (.region [⟨(.some 20), (.load .true 9 (.t 3) .false), .none⟩,
   ⟨(.some 21), (.faddr 7 (.t 1)), .none⟩,
   ⟨(.some 22), (.load .true 8 (.t 21) .false), .none⟩,
   ⟨(.some 23), (.load .true 4 (.t 4) .false), .none⟩,
   ⟨(.some 24), (.call0 13 [(.t 20), (.t 22), (.t 23)]), .none⟩,
   ⟨(.some 19), (.mov (.t 24)), .none⟩,
   ⟨(.some 25), (.ext (.t 19) 0), .none⟩,
   ⟨(.some 26), (.ext (.t 19) 1), .none⟩,
   ⟨(.some 5), (.alloc [(.d (.int .i64 0)), (.d (.int .i64 0)), (.d (.int .i64 0)), (.d (.int .i64 0)), (.d (.int .i64 0)), (.d (.int .i64 0)), (.d (.int .i64 0)), (.d (.int .i64 0))]), .none⟩,
   ⟨(.some 6), (.alloc [(.d (.int .i64 0)), (.d (.int .i64 0)), (.d (.int .i64 0)), (.d (.flt .f64 0)), (.d (.str (bs []))), (.full [])]), .none⟩,
   ⟨.none, (.store 8 (.t 5) (.t 25)), .none⟩,
   ⟨.none, (.store 6 (.t 6) (.t 26)), .none⟩])
 c5_9)
abbrev c5_7 : PCode :=
 (.keep [1, 3, 4] (.seq (.region [⟨(.some 18), (.faddr 8 (.t 3)), .none⟩,
   ⟨.none, (.store 1 (.t 18) (.c (.full []))), .none⟩])
 c5_8))
abbrev c5_6 : PCode :=
 (.keep [1] (.seq (.region [⟨(.some 14), (.load .true 16 (.t 1) .false), .none⟩,
   ⟨(.some 15), (.call0 15 [(.t 14)]), .none⟩,
   ⟨(.some 13), (.mov (.t 15)), .none⟩,
   ⟨(.some 16), (.ext (.t 13) 0), .none⟩,
   ⟨(.some 17), (.ext (.t 13) 1), .none⟩,
   ⟨(.some 3), (.alloc [(.d (.int .u8 0)), (.d (.int .i64 0)), (.full []), (.full []), (.d (.int .u8 0)), (.d (.int .i64 0)), (.full []), (.full []), (.full [])]), .none⟩,
   ⟨(.some 4), (.alloc [(.d (.int .i64 0)), (.d (.flt .f64 0)), (.d (.str (bs []))), (.full [])]), .none⟩,
   ⟨.none, (.store 9 (.t 3) (.t 16)), .none⟩,
   ⟨.none, (.store 4 (.t 4) (.t 17)), .none⟩])
 c5_7))
abbrev c5_3 : PCode :=
 (.keep [1] (.seq (.seq (.region [⟨(.some 10), (.load .true 16 (.t 1) .false), .none⟩,
   ⟨(.some 11), (.call0 14 [(.t 10)]), .none⟩,
   ⟨(.some 12), (.not (.t 11)), .none⟩])
 c5_4)
 c5_6))
abbrev c5_0 : PCode :=
 (.seq (.seq (.region [⟨(.some 8), (.call0 9 []), .none⟩,
   ⟨(.some 9), (.not (.t 8)), .none⟩])
 c5_1)
 c5_3)
def c5 : PFun := ⟨
 (.seq (.region [⟨(.some 1), (.box 16 (.t 0)), .none⟩,
   ⟨(.some 2), (.mov (.c (.d (.bool .false)))), .none⟩])
 c5_0),
 1, 51, [(.tmp 2)]⟩

/-- prompter/play.Same -/
abbrev c24_0 : PCode :=
 (.keep [2, 3] (.seq (.region [⟨(.some 5), (.faddr 0 (.t 2)), .none⟩,
   ⟨(.some 6), (.load .false 1 (.t 5) .false), .none⟩,
   ⟨(.some 7), (.faddr 0 (.t 3)), .none⟩,
   ⟨(.some 8), (.load .false 1 (.t 7) .false), .none⟩,
   ⟨(.some 9), (.bin .eql (.t 6) (.t 8)), .none⟩,
   ⟨(.some 10), (.mov (.t 9)), .none⟩,
   ⟨(.some 11), (.faddr 1 (.t 2)), (.some (10, .true))⟩,
   ⟨(.some 12), (.load .false 1 (.t 11) .false), (.some (10, .true))⟩,
   ⟨(.some 13), (.faddr 1 (.t 3)), (.some (10, .true))⟩,
   ⟨(.some 14), (.load .false 1 (.t 13) .false), (.some (10, .true))⟩,
   ⟨(.some 15), (.bin .eql (.t 12) (.t 14)), (.some (10, .true))⟩,
   ⟨(.some 16), (.pick (.t 10) (.t 15) (.c (.d (.bool .false)))), .none⟩,
   ⟨(.some 17), (.mov (.t 16)), .none⟩,
   ⟨(.some 18), (.faddr 2 (.t 2)), (.some (17, .true))⟩,
   ⟨(.some 19), (.load .true 4 (.t 18) .false), (.some (17, .true))⟩,
   ⟨(.some 20), (.faddr 2 (.t 3)), (.some (17, .true))⟩,
   ⟨(.some 21), (.load .true 4 (.t 20) .false), (.some (17, .true))⟩,
   ⟨(.some 22), (.call0 17 [(.t 19), (.t 21)]), (.some (17, .true))⟩,
   ⟨(.some 23), (.pick (.t 17) (.t 22) (.c (.d (.bool .false)))), .none⟩,
   ⟨(.some 4), (.mov (.t 23)), .none⟩])
 .ret))
def c24 : PFun := ⟨
 (.seq (.region [⟨(.some 2), (.box 6 (.t 0)), .none⟩,
   ⟨(.some 3), (.box 6 (.t 1)), .none⟩,
   ⟨(.some 4), (.mov (.c (.d (.bool .false)))), .none⟩])
 c24_0),
 2, 24, [(.tmp 4)]⟩

theorem e9 : entered Try.prog 9 = true := by kernel_rfl
theorem k9 : compFun Try.prog (fun _ => 0) 9 = some c9.er := by kernel_rfl
theorem e14 : entered Try.prog 14 = true := by kernel_rfl
theorem k14 : compFun Try.prog (fun _ => 0) 14 = some c14.er := by kernel_rfl
theorem e15 : entered Try.prog 15 = true := by kernel_rfl
theorem k15 : compFun Try.prog (fun i => if i = 1 then 1 else if i = 2 then 1 else 0) 15 = some c15.er := by kernel_rfl
theorem e5 : entered Try.prog 5 = true := by kernel_rfl
theorem k5 : compFun Try.prog (fun i => if i = 10 then 1 else 0) 5 = some c5.er := by kernel_rfl
theorem e24 : entered Try.prog 24 = true := by kernel_rfl
theorem k24 : compFun Try.prog (fun _ => 0) 24 = some c24.er := by kernel_rfl


theorem cPlay (tk an : KT) (ht : tk.fit) (ha : an.fit) (hp1 : posd 20 an) (hc1 : cost 20 an < 2 ^ 60) (p : List Ins) (hp : ∀ x ∈ p, x.fit) (hpl : p.length < 2 ^ 36) (S : List Int) (hS : S.length = 8) (hSr : Rok S) (v : VT) (hv : v.fit) (hvc : VT.is 20 tk v = true → v.count < 2 ^ 40) :
    Pure (PCalls Try.prog GG) 13 [.agg [.d (.int .u8 tk.kind), .d (.int .i64 tk.most), .d (.sl (tk.names.map fun s => [.str s])), .d (.sl (tk.of.map KT.row)), .d (.int .u8 an.kind), .d (.int .i64 an.most), .d (.sl (an.names.map fun s => [.str s])), .d (.sl (an.of.map KT.row)), .d (.sl (p.map Ins.row))], .agg (sc S), v.av] (playA (playF tk an p S v)) :=
  C13 tk an ht ha hp1 hc1 p hp hpl S hS hSr v hv hvc (fun h args R _ => go_ok hp h args R) (fun args R b R' hR h => go_rok hp _ _ _ _ _ _ hR h)

theorem awakeX : playF (.mk 1 0 [] []) (.mk 0 0 [] []) [⟨3, 0, 0, 8, 0⟩] [3, 0, 0, 0, 0, 0, 0, 0] (.mk 5 0 (bs []) []) = ([8, 0, 0, 0, 0, 0, 0, 0], 0, 0, .mk 1 0 (bs []) []) := by kernel_rfl
theorem leaf_fit (k m : Int) : (KT.mk k m [] []).fit := (KT.fit_eq _).2 ⟨⟨show (0 : Nat) < 2 ^ 40 by decide, fun _ h => by cases h⟩, show (0 : Nat) < 2 ^ 40 by decide, fun _ h => by cases h⟩
theorem leaf_posd (k : Int) : posd 20 (KT.mk k 0 [] []) := ⟨Int.le_refl 0, fun _ h => by cases h⟩
theorem leaf_cost : cost 20 (KT.mk 0 0 [] []) < 2 ^ 60 := by decide +kernel
theorem C9 : Pure (PCalls Try.prog GG) 9 [] (b2 true) := by
  have hc := cPlay (.mk 1 0 [] []) (.mk 0 0 [] []) (leaf_fit _ _) (leaf_fit _ _)
    (leaf_posd 0) leaf_cost [⟨3, 0, 0, 8, 0⟩] (fun x hx => by rw [List.mem_singleton.1 hx]; exact ⟨by decide, by decide, by decide, by decide, by decide⟩) (by decide) [3, 0, 0, 0, 0, 0, 0, 0] rfl (fun x hx => by simp at hx; omega) (.mk 5 0 (bs []) []) (.mk (by decide) (by decide) (by decide) (by decide) (fun _ h => by cases h)) (fun _ => by decide)
  rw [awakeX] at hc
  intro st; refine pcalls_of k9 e9 (of_decide_eq_true rfl) ?_; dsimp only [c9]; refine pstartL ?_; intro t hL; generalize hQ : pfin _ _ = Q
  (refine gor hL ?_; (repeat (clear hL; intro t hL; refine gor hL ?_))); (with_reducible refine po_allocL hL rfl ?_); clear hL; intro p1 t hL
  refine gor hL ?_; (repeat (clear hL; intro t hL; refine gor hL ?_))
  refine po_c0 hc ?_ (by rfl)
  refine gor hL ?_; (repeat (clear hL; intro t hL; refine gor hL ?_))
  (refine gor hL ?_; (repeat (clear hL; intro t hL; refine gor hL ?_))); (with_reducible refine po_allocL hL rfl ?_); clear hL; intro p2 t hL
  (refine gor hL ?_; (repeat (clear hL; intro t hL; refine gor hL ?_))); (with_reducible refine po_allocL hL rfl ?_); clear hL; intro p3 t hL
  refine gor hL ?_; (repeat (clear hL; intro t hL; refine gor hL ?_))
  rw [← hQ]
  exact pfin_pure rfl hL.le
end Go.Pv
