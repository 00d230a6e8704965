/- Functions of the program, by value. No condition. -/
import Derived.Test.YtidelhpljjjjmaaV9
import Derived.Test.YtidelhpljjjjmaaP26
import Derived.Test.YtidelhpljjjjmaaE1
namespace Go.Pv
open Go.Proofs
set_option maxRecDepth 100000
set_option maxHeartbeats 8000000

/-- (*prompter/wire.Writer).Len -/
abbrev c50_2 : PCode :=
 (.seq (.region [⟨(.some 2), (.mov (.c (.d (.int .i64 0)))), .none⟩])
 .ret)
abbrev c50_1 : PCode :=
 (.cond (.t 4)
  c50_2
  .skip)
abbrev c50_3 : PCode :=
 (.keep [0] (.seq (.region [⟨(.some 5), (.mov (.t 0)), .none⟩,
   ⟨(.some 6), (.nilchk (.t 5)), .none⟩,
   ⟨(.some 7), (.faddr 0 (.t 6)), .none⟩,
   ⟨(.some 8), (.load .false 1 (.t 7) .false), .none⟩,
   ⟨(.some 9), (.len (.t 8)), .none⟩,
   ⟨(.some 2), (.mov (.t 9)), .none⟩])
 .ret))
abbrev c50_0 : PCode :=
 (.seq (.seq (.region [⟨(.some 3), (.mov (.t 0)), .none⟩,
   ⟨(.some 4), (.isNil 0 .false (.t 3)), .none⟩])
 c50_1)
 c50_3)
def c50 : PFun := ⟨
 (.seq (.region [⟨(.some 2), (.mov (.c (.d (.int .i64 0)))), .none⟩])
 c50_0),
 1, 10, [(.tmp 2)]⟩

/-- (*prompter/wire.Writer).Bytes -/
abbrev c51_2 : PCode :=
 (.seq (.region [⟨(.some 2), (.mov (.c (.full []))), .none⟩])
 .ret)
abbrev c51_1 : PCode :=
 (.cond (.t 4)
  c51_2
  .skip)
abbrev c51_3 : PCode :=
 (.keep [0] (.seq (.region [⟨(.some 5), (.bsl 1 []), .none⟩,
   ⟨(.some 6), (.mov (.t 0)), .none⟩,
   ⟨(.some 7), (.nilchk (.t 6)), .none⟩,
   ⟨(.some 8), (.faddr 0 (.t 7)), .none⟩,
   ⟨(.some 9), (.load .false 1 (.t 8) .false), .none⟩,
   ⟨(.some 10), (.app 1 1 (.t 5) (.t 9)), .none⟩,
   ⟨(.some 2), (.mov (.t 10)), .none⟩])
 .ret))
abbrev c51_0 : PCode :=
 (.seq (.seq (.region [⟨(.some 3), (.mov (.t 0)), .none⟩,
   ⟨(.some 4), (.isNil 0 .false (.t 3)), .none⟩])
 c51_1)
 c51_3)
def c51 : PFun := ⟨
 (.seq (.region [⟨(.some 2), (.mov (.c (.full []))), .none⟩])
 c51_0),
 1, 11, [(.tmp 2)]⟩

/-- (*prompter/wire.Writer).Word -/
abbrev c64_1 : PCode :=
 (.region [⟨(.some 6), (.mov (.t 0)), .none⟩,
   ⟨(.some 7), (.mov (.t 0)), .none⟩,
   ⟨(.some 8), (.nilchk (.t 7)), .none⟩,
   ⟨(.some 9), (.faddr 0 (.t 8)), .none⟩,
   ⟨(.some 10), (.load .false 1 (.t 9) .false), .none⟩,
   ⟨(.some 11), (.mov (.t 1)), .none⟩,
   ⟨(.some 12), (.bin .shr (.t 11) (.c (.d (.int .u64 8)))), .none⟩,
   ⟨(.some 13), (.cvt .u8 (.t 12)), .none⟩,
   ⟨(.some 14), (.mov (.t 1)), .none⟩,
   ⟨(.some 15), (.cvt .u8 (.t 14)), .none⟩,
   ⟨(.some 16), (.bsl 1 [(.t 13), (.t 15)]), .none⟩,
   ⟨(.some 17), (.app 1 1 (.t 10) (.t 16)), .none⟩,
   ⟨(.some 18), (.nilchk (.t 6)), .none⟩,
   ⟨(.some 19), (.faddr 0 (.t 18)), .none⟩,
   ⟨.none, (.store 1 (.t 19) (.t 17)), .none⟩])
abbrev c64_0 : PCode :=
 (.cond (.t 5)
  c64_1
  .skip)
def c64 : PFun := ⟨
 (.seq (.region [⟨(.some 4), (.mov (.t 0)), .none⟩,
   ⟨(.some 5), (.isNil 0 .true (.t 4)), .none⟩])
 c64_0),
 2, 20, []⟩

/-- (*prompter/wire.Writer).Long -/
abbrev c65_0 : PCode :=
 (.region [⟨(.some 9), (.mov (.t 0)), .none⟩,
   ⟨(.some 10), (.mov (.t 1)), .none⟩,
   ⟨(.some 11), (.cvt .u16 (.t 10)), .none⟩,
   ⟨(.some 12), (.call0 64 [(.t 9), (.t 11)]), .none⟩])
def c65 : PFun := ⟨
 (.seq (.region [⟨(.some 4), (.mov (.t 0)), .none⟩,
   ⟨(.some 5), (.mov (.t 1)), .none⟩,
   ⟨(.some 6), (.bin .shr (.t 5) (.c (.d (.int .u64 16)))), .none⟩,
   ⟨(.some 7), (.cvt .u16 (.t 6)), .none⟩,
   ⟨(.some 8), (.call0 64 [(.t 4), (.t 7)]), .none⟩])
 c65_0),
 2, 13, []⟩

/-- (*prompter/wire.Writer).Quad -/
abbrev c66_0 : PCode :=
 (.region [⟨(.some 9), (.mov (.t 0)), .none⟩,
   ⟨(.some 10), (.mov (.t 1)), .none⟩,
   ⟨(.some 11), (.cvt .u32 (.t 10)), .none⟩,
   ⟨(.some 12), (.call0 65 [(.t 9), (.t 11)]), .none⟩])
def c66 : PFun := ⟨
 (.seq (.region [⟨(.some 4), (.mov (.t 0)), .none⟩,
   ⟨(.some 5), (.mov (.t 1)), .none⟩,
   ⟨(.some 6), (.bin .shr (.t 5) (.c (.d (.int .u64 32)))), .none⟩,
   ⟨(.some 7), (.cvt .u32 (.t 6)), .none⟩,
   ⟨(.some 8), (.call0 65 [(.t 4), (.t 7)]), .none⟩])
 c66_0),
 2, 13, []⟩

/-- (*prompter/wire.Writer).Text -/
abbrev c67_0 : PCode :=
 (.cond (.t 5)
  .ret
  .skip)
abbrev c67_5 : PCode :=
 (.region [⟨(.some 24), (.mov (.t 0)), .none⟩,
   ⟨(.some 25), (.mov (.t 0)), .none⟩,
   ⟨(.some 26), (.nilchk (.t 25)), .none⟩,
   ⟨(.some 27), (.faddr 0 (.t 26)), .none⟩,
   ⟨(.some 28), (.load .false 1 (.t 27) .false), .none⟩,
   ⟨(.some 29), (.bsl 1 [(.c (.d (.int .u8 0)))]), .none⟩,
   ⟨(.some 30), (.app 1 1 (.t 28) (.t 29)), .none⟩,
   ⟨(.some 31), (.nilchk (.t 24)), .none⟩,
   ⟨(.some 32), (.faddr 0 (.t 31)), .none⟩,
   ⟨.none, (.store 1 (.t 32) (.t 30)), .none⟩])
abbrev c67_4 : PCode :=
 (.cond (.t 23)
  c67_5
  .skip)
abbrev c67_3 : PCode :=
 (.keep [0, 1] (.seq (.region [⟨(.some 20), (.mov (.t 1)), .none⟩,
   ⟨(.some 21), (.lenS (.t 20)), .none⟩,
   ⟨(.some 22), (.bin .rem (.t 21) (.c (.d (.int .i64 2)))), .none⟩,
   ⟨(.some 23), (.bin .eql (.t 22) (.c (.d (.int .i64 1)))), .none⟩])
 c67_4))
abbrev c67_2 : PCode :=
 (.keep [0, 1] (.seq (.region [⟨(.some 11), (.mov (.t 0)), .none⟩,
   ⟨(.some 12), (.mov (.t 0)), .none⟩,
   ⟨(.some 13), (.nilchk (.t 12)), .none⟩,
   ⟨(.some 14), (.faddr 0 (.t 13)), .none⟩,
   ⟨(.some 15), (.load .false 1 (.t 14) .false), .none⟩,
   ⟨(.some 16), (.mov (.t 1)), .none⟩,
   ⟨(.some 17), (.appS (.t 15) (.t 16)), .none⟩,
   ⟨(.some 18), (.nilchk (.t 11)), .none⟩,
   ⟨(.some 19), (.faddr 0 (.t 18)), .none⟩,
   ⟨.none, (.store 1 (.t 19) (.t 17)), .none⟩])
 c67_3))
abbrev c67_1 : PCode :=
 (.keep [0, 1] (.seq (.region [⟨(.some 6), (.mov (.t 0)), .none⟩,
   ⟨(.some 7), (.mov (.t 1)), .none⟩,
   ⟨(.some 8), (.lenS (.t 7)), .none⟩,
   ⟨(.some 9), (.cvt .u16 (.t 8)), .none⟩,
   ⟨(.some 10), (.call0 64 [(.t 6), (.t 9)]), .none⟩])
 c67_2))
def c67 : PFun := ⟨
 (.seq (.seq (.region [⟨(.some 4), (.mov (.t 0)), .none⟩,
   ⟨(.some 5), (.isNil 0 .false (.t 4)), .none⟩])
 c67_0)
 c67_1),
 2, 33, []⟩

theorem e50 : entered Try.prog 50 = true := by kernel_rfl
theorem k50 : compFun Try.prog (fun _ => 0) 50 = some c50.er := by kernel_rfl
theorem e51 : entered Try.prog 51 = true := by kernel_rfl
theorem k51 : compFun Try.prog (fun _ => 0) 51 = some c51.er := by kernel_rfl
theorem e64 : entered Try.prog 64 = true := by kernel_rfl
theorem k64 : compFun Try.prog (fun _ => 0) 64 = some c64.er := by kernel_rfl
theorem e65 : entered Try.prog 65 = true := by kernel_rfl
theorem k65 : compFun Try.prog (fun _ => 0) 65 = some c65.er := by kernel_rfl
theorem e66 : entered Try.prog 66 = true := by kernel_rfl
theorem k66 : compFun Try.prog (fun _ => 0) 66 = some c66.er := by kernel_rfl
theorem e67 : entered Try.prog 67 = true := by kernel_rfl
theorem k67 : compFun Try.prog (fun _ => 0) 67 = some c67.er := by kernel_rfl


abbrev rowsB (l : List Int) : List (List Dat) := l.map fun n => [.int .u8 n]
theorem rowsB_len (l : List Int) : ∀ r ∈ rowsB l, r.length = 1 := fun r hr => by obtain ⟨x, _, rfl⟩ := List.mem_map.1 hr; rfl
theorem rowsB_app (l r : List Int) : rowsB l ++ rowsB r = rowsB (l ++ r) := by rw [rowsB, rowsB, rowsB, List.map_append]
theorem rowsB_app1 (l : List Int) (a : Int) : rowsB l ++ [[.int .u8 a]] = rowsB (l ++ [a]) := by rw [← rowsB_app]; rfl
theorem rowsB_app2 (l : List Int) (a b : Int) : rowsB l ++ [[.int .u8 a], [.int .u8 b]] = rowsB (l ++ [a, b]) := by rw [← rowsB_app]; rfl
theorem rowsB_str (s : ByteArray) : rowsOfStr s = rowsB (strB s) := by
  unfold rowsOfStr rowsB strB
  rw [List.map_map]; rfl
def wrF (pw : Nat) (v : AV) (l : List Int) : List Item := [.box pw [v], .vec v (rowsB l) 1]
theorem wr_sat (pw : Nat) (v : AV) (l l' : List Int) : Sat (wrF pw v l) (fun a : AV => wrF pw a l') := Sat.out pw [v] (fun a => [a]) v _ _ 1 1 [] (by simp)

theorem wrLen (pw : Nat) (v : AV) (l : List Int) : CL (PCalls Try.prog GG) 50 [ptrAt pw] (wrF pw v l) (fun _ : AV => i64 l.length) (fun a => wrF pw a l) := by
  refine ⟨wr_sat _ _ _ _, ?_⟩
  simp only [wrF]
  intro st t hL; refine pcalls_of k50 e50 (of_decide_eq_true rfl) ?_; dsimp only [c50]; generalize hQ : pfin _ _ = Q
  have fv := hL.vk v
  obtain ⟨fv_r, fv_w, fv_w1, fv_c, fv_s, fv_d⟩ := id fv
  refine gor hL ?_; (repeat (clear hL; intro t hL; refine gor hL ?_))
  rw [← hQ]
  exact pfinK v rfl (.inl rfl) hL
theorem shr_of (n : Int) (_hn : 0 ≤ n) (k m : Nat) (h : k ≤ m) : n.fdiv (2 ^ min k m) = n / 2 ^ k := by
  rw [Nat.min_eq_left h, Int.fdiv_eq_ediv_of_nonneg _ (Int.pow_nonneg (by decide))]
theorem wrWord (pw : Nat) (v : AV) (l : List Int) (n : Int) (hn : 0 ≤ n ∧ n ≤ 65535) (hl : l.length < 2 ^ 41) : CL (PCalls Try.prog GG) 64 [ptrAt pw, .d (.int .u16 n)] (wrF pw v l) (fun _ : AV => .tup []) (fun a => wrF pw a (l ++ wordB n)) := by
  refine ⟨wr_sat _ _ _ _, ?_⟩
  simp only [wrF]
  have e1 : IntKind.u8.wrap (n.fdiv (2 ^ min (Int.toNat 8) IntKind.u16.bits)) = n / 256 % 256 := by
    rw [shr_of n hn.1 _ _ (by decide), IntKind.wrap_u8]; rfl
  have e2 : IntKind.u8.wrap n = n % 256 := by rw [IntKind.wrap_u8]
  intro st t hL; refine pcalls_of k64 e64 (of_decide_eq_true rfl) ?_; dsimp only [c64]; generalize hQ : pfin _ _ = Q
  have fv := hL.vk v
  obtain ⟨fv_r, fv_w, fv_w1, fv_c, fv_s, fv_d⟩ := id fv
  refine gor hL ?_; (repeat (clear hL; intro t hL; refine gor hL ?_))
  refine gnm ?_; rw [e1, e2]
  refine po_appA (hn := rowsB_len [n / 256 % 256, n % 256]) hL (rowsB_len _) ?_ ?_
  · simp; omega
  clear hL; intro a t fa hL
  rw [rowsB_app] at hL fa
  obtain ⟨fa_r, fa_w, fa_w1, fa_c, fa_s, fa_d⟩ := id fa
  refine gor hL ?_; (repeat (clear hL; intro t hL; refine gor hL ?_))
  rw [← hQ]
  exact pfinK a rfl (.inl rfl) hL
theorem wrLong (pw : Nat) (v : AV) (l : List Int) (n : Int) (hn : 0 ≤ n ∧ n ≤ 4294967295) (hl : l.length < 2 ^ 41 - 8) : CL (PCalls Try.prog GG) 65 [ptrAt pw, .d (.int .u32 n)] (wrF pw v l) (fun _ : AV => .tup []) (fun a => wrF pw a (l ++ longB n)) := by
  refine ⟨wr_sat _ _ _ _, ?_⟩
  have e1 : IntKind.u16.wrap (n.fdiv (2 ^ min (Int.toNat 16) IntKind.u32.bits)) = n / 65536 := by
    rw [shr_of n hn.1 _ _ (by decide), show n / 2 ^ (Int.toNat 16) = n / 65536 from rfl, IntWalk.u16_in _ (by omega)]
  have e2 : IntKind.u16.wrap n = n % 65536 := by rw [IntKind.wrap_u16]
  have h1 := fun v => wrWord pw v l (n / 65536) (by omega) (by omega)
  have h2 := fun v => wrWord pw v (l ++ wordB (n / 65536)) (n % 65536) (by omega) (by rw [List.length_append, wordB_len]; omega)
  simp only [wrF] at h1 h2 ⊢
  rw [longB, ← List.append_assoc]
  intro st t hL; refine pcalls_of k65 e65 (of_decide_eq_true rfl) ?_; dsimp only [c65]; generalize hQ : pfin _ _ = Q
  refine gor hL ?_; (repeat (clear hL; intro t hL; refine gor hL ?_))
  refine gnm ?_; rw [e1]
  refine po_callK hL ((h1 _)) ?_; clear hL; intro a t hL; have fa := hL.vk a; obtain ⟨fa_r, fa_w, fa_w1, fa_c, fa_s, fa_d⟩ := id fa
  refine gor hL ?_; (repeat (clear hL; intro t hL; refine gor hL ?_))
  refine gnm ?_; rw [e2]
  refine po_callK hL ((h2 _)) ?_; clear hL; intro b t hL; have fb := hL.vk b; obtain ⟨fb_r, fb_w, fb_w1, fb_c, fb_s, fb_d⟩ := id fb
  refine gor hL ?_; (repeat (clear hL; intro t hL; refine gor hL ?_))
  rw [← hQ]
  exact pfinK b rfl (.inl rfl) hL
theorem wrQuad (pw : Nat) (v : AV) (l : List Int) (n : Int) (hn : 0 ≤ n ∧ n ≤ 18446744073709551615) (hl : l.length < 2 ^ 41 - 16) : CL (PCalls Try.prog GG) 66 [ptrAt pw, .d (.int .u64 n)] (wrF pw v l) (fun _ : AV => .tup []) (fun a => wrF pw a (l ++ quadB n)) := by
  refine ⟨wr_sat _ _ _ _, ?_⟩
  have e1 : IntKind.u32.wrap (n.fdiv (2 ^ min (Int.toNat 32) IntKind.u64.bits)) = n / 4294967296 := by
    rw [shr_of n hn.1 _ _ (by decide), show n / 2 ^ (Int.toNat 32) = n / 4294967296 from rfl, IntWalk.u32_in _ (by omega)]
  have e2 : IntKind.u32.wrap n = n % 4294967296 := by rw [IntKind.wrap_u32]
  have h1 := fun v => wrLong pw v l (n / 4294967296) (by omega) (by omega)
  have h2 := fun v => wrLong pw v (l ++ longB (n / 4294967296)) (n % 4294967296) (by omega) (by rw [List.length_append, longB_len]; omega)
  simp only [wrF] at h1 h2 ⊢
  rw [quadB, ← List.append_assoc]
  intro st t hL; refine pcalls_of k66 e66 (of_decide_eq_true rfl) ?_; dsimp only [c66]; generalize hQ : pfin _ _ = Q
  refine gor hL ?_; (repeat (clear hL; intro t hL; refine gor hL ?_))
  refine gnm ?_; rw [e1]
  refine po_callK hL ((h1 _)) ?_; clear hL; intro a t hL; have fa := hL.vk a; obtain ⟨fa_r, fa_w, fa_w1, fa_c, fa_s, fa_d⟩ := id fa
  refine gor hL ?_; (repeat (clear hL; intro t hL; refine gor hL ?_))
  refine gnm ?_; rw [e2]
  refine po_callK hL ((h2 _)) ?_; clear hL; intro b t hL; have fb := hL.vk b; obtain ⟨fb_r, fb_w, fb_w1, fb_c, fb_s, fb_d⟩ := id fb
  refine gor hL ?_; (repeat (clear hL; intro t hL; refine gor hL ?_))
  rw [← hQ]
  exact pfinK b rfl (.inl rfl) hL
theorem wrText (pw : Nat) (v : AV) (l : List Int) (s : ByteArray) (hs : s.size ≤ 65535) (hl : l.length < 2 ^ 40) : CL (PCalls Try.prog GG) 67 [ptrAt pw, .d (.str s)] (wrF pw v l) (fun _ : AV => .tup []) (fun a => wrF pw a (l ++ textB s)) := by
  refine ⟨wr_sat _ _ _ _, ?_⟩
  have h1 := fun v => wrWord pw v l s.size (by omega) (by omega)
  simp only [wrF] at h1 ⊢
  intro st t hL; refine pcalls_of k67 e67 (of_decide_eq_true rfl) ?_; dsimp only [c67]; generalize hQ : pfin _ _ = Q
  refine gor hL ?_; (repeat (clear hL; intro t hL; refine gor hL ?_))
  refine gnm ?_; rw [IntWalk.u16_in (s.size : Int) (by omega)]
  refine po_callK hL ((h1 _)) ?_; clear hL; intro a t hL; have fa := hL.vk a; obtain ⟨fa_r, fa_w, fa_w1, fa_c, fa_s, fa_d⟩ := id fa
  refine gor hL ?_; (repeat (clear hL; intro t hL; refine gor hL ?_))
  refine po_appSL (v := a) (rows := rowsB (l ++ wordB s.size)) (z := s) hL (rowsB_len _) ?_ ?_
  · rw [List.length_map, List.length_append, wordB_len]; omega
  clear hL; intro b t fb hL
  rw [rowsB_str, rowsB_app] at hL fb
  obtain ⟨fb_r, fb_w, fb_w1, fb_c, fb_s, fb_d⟩ := id fb
  refine gor hL ?_; (repeat (clear hL; intro t hL; refine gor hL ?_))
  have e2 : ((s.size : Int).tmod 2 == 1) = decide (s.size % 2 = 1) := by
    rw [IntWalk.rem_in _ _ (by omega), Bool.eq_iff_iff]; simp; omega
  refine gnm ?_; rw [e2]
  refine pcond_b rfl (fun h => ?_) (fun h => ?_)
  · have h' : s.size % 2 = 1 := by simpa using h
    rw [textB, if_pos h'] at hQ
    refine gor hL ?_; (repeat (clear hL; intro t hL; refine gor hL ?_))
    refine po_appA (hn := rowsB_len [0]) hL (rowsB_len _) ?_ ?_
    · simp [strB_len, wordB_len]; omega
    clear hL; intro c t fc hL
    rw [rowsB_app] at hL fc
    obtain ⟨fc_r, fc_w, fc_w1, fc_c, fc_s, fc_d⟩ := id fc
    rw [List.append_assoc, List.append_assoc, ← List.append_assoc (wordB _)] at hL
    refine gor hL ?_; (repeat (clear hL; intro t hL; refine gor hL ?_))
    rw [← hQ]
    exact pfinK c rfl (.inl rfl) hL
  · have h' : ¬ s.size % 2 = 1 := by simpa using h
    rw [textB, if_neg h', List.append_nil] at hQ
    rw [List.append_assoc] at hL
    refine gor hL ?_; (repeat (clear hL; intro t hL; refine gor hL ?_))
    rw [← hQ]
    exact pfinK b rfl (.inl rfl) hL
end Go.Pv
