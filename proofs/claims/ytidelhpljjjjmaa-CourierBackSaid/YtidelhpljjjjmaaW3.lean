/- Functions of the program, by value. No condition. -/
import Derived.Test.YtidelhpljjjjmaaW2
namespace Go.Pv
open Go.Proofs
set_option maxRecDepth 100000
set_option maxHeartbeats 8000000

/-- prompter/courier.Put -/
abbrev c29_3 : PCode :=
 (.seq (.region [⟨(.some 13), (.mov (.t 6)), .none⟩,
   ⟨(.some 4), (.mov (.c (.full []))), .none⟩,
   ⟨(.some 5), (.mov (.t 13)), .none⟩])
 .ret)
abbrev c29_2 : PCode :=
 (.cond (.t 12)
  c29_3
  .skip)
abbrev c29_1 : PCode :=
 (.keep [2, 3, 6] (.seq (.region [⟨(.some 11), (.mov (.t 6)), .none⟩,
   ⟨(.some 12), (.bin .neq (.t 11) (.c (.d (.int .i64 0)))), .none⟩])
 c29_2))
abbrev c29_8 : PCode :=
 (.seq (.region [⟨(.some 4), (.mov (.c (.full []))), .none⟩,
   ⟨(.some 5), (.mov (.c (.d (.int .i64 6)))), .none⟩])
 .ret)
abbrev c29_7 : PCode :=
 (.cond (.t 22)
  c29_8
  .skip)
abbrev c29_9 : PCode :=
 (.keep [7] (.seq (.region [⟨(.some 23), (.mov (.t 7)), .none⟩,
   ⟨(.some 24), (.call0 51 [(.t 23)]), .none⟩,
   ⟨(.some 4), (.mov (.t 24)), .none⟩,
   ⟨(.some 5), (.mov (.c (.d (.int .i64 0)))), .none⟩])
 .ret))
abbrev c29_6 : PCode :=
 (.keep [7] (.seq (.seq (.region [⟨(.some 20), (.mov (.t 7)), .none⟩,
   ⟨(.some 21), (.call0 50 [(.t 20)]), .none⟩,
   ⟨(.some 22), (.bin .gtr (.t 21) (.c (.d (.int .i64 4000)))), .none⟩])
 c29_7)
 c29_9))
abbrev c29_5 : PCode :=
 (.keep [2, 3, 7] (.seq (.region [⟨(.some 16), (.mov (.t 7)), .none⟩,
   ⟨(.some 17), (.load .true 4 (.t 2) .false), .none⟩,
   ⟨(.some 18), (.load .true 4 (.t 3) .false), .none⟩,
   ⟨(.some 19), (.call0 49 [(.t 16), (.t 17), (.t 18)]), .none⟩])
 c29_6))
abbrev c29_4 : PCode :=
 (.seq (.region [⟨(.some 14), (.bld [(.full [])] []), .none⟩,
   ⟨(.some 15), (.box 1 (.t 14)), .none⟩,
   ⟨(.some 7), (.mov (.t 15)), .none⟩])
 c29_5)
abbrev c29_0 : PCode :=
 (.keep [2, 3] (.seq (.seq (.region [⟨(.some 8), (.load .true 4 (.t 2) .false), .none⟩,
   ⟨(.some 9), (.load .true 4 (.t 3) .false), .none⟩,
   ⟨(.some 10), (.call0 22 [(.t 8), (.t 9)]), .none⟩,
   ⟨(.some 6), (.mov (.t 10)), .none⟩])
 c29_1)
 c29_4))
def c29 : PFun := ⟨
 (.seq (.region [⟨(.some 2), (.box 4 (.t 0)), .none⟩,
   ⟨(.some 3), (.box 4 (.t 1)), .none⟩,
   ⟨(.some 4), (.mov (.c (.full []))), .none⟩,
   ⟨(.some 5), (.mov (.c (.d (.int .i64 0)))), .none⟩])
 c29_0),
 2, 25, [(.tmp 4), (.tmp 5)]⟩

/-- prompter/prompterlaw09.Awake -/
abbrev c28_2 : PCode :=
 (.keep [2, 3] (.seq (.region [⟨(.some 16), (.mov (.t 3)), .none⟩,
   ⟨(.some 17), (.bin .eql (.t 16) (.c (.d (.int .i64 0)))), .none⟩,
   ⟨(.some 18), (.mov (.t 17)), .none⟩,
   ⟨(.some 19), (.mov (.t 2)), (.some (18, .true))⟩,
   ⟨(.some 20), (.strOf (.t 19)), (.some (18, .true))⟩,
   ⟨(.some 21), (.bin .eql (.t 20) (.c (.d (.str (bs [0, 2, 0, 1, 0, 0]))))), (.some (18, .true))⟩,
   ⟨(.some 22), (.pick (.t 18) (.t 21) (.c (.d (.bool .false)))), .none⟩,
   ⟨(.some 0), (.mov (.t 22)), .none⟩])
 .ret))
abbrev c28_1 : PCode :=
 (.keep [1] (.seq (.region [⟨(.some 8), (.load .true 4 (.t 1) .false), .none⟩,
   ⟨(.some 9), (.bld [(.d (.int .i64 0)), (.d (.flt .f64 0)), (.d (.str (bs []))), (.full [])] [(0, (1, (.c (.d (.int .i64 1)))))]), .none⟩,
   ⟨(.some 10), (.bld [(.d (.int .i64 0)), (.d (.flt .f64 0)), (.d (.str (bs []))), (.full [])] []), .none⟩,
   ⟨(.some 11), (.bsl 4 [(.t 9), (.t 10)]), .none⟩,
   ⟨(.some 12), (.bld [(.d (.int .i64 0)), (.d (.flt .f64 0)), (.d (.str (bs []))), (.full [])] [(3, (1, (.t 11)))]), .none⟩,
   ⟨(.some 13), (.call0 29 [(.t 8), (.t 12)]), .none⟩,
   ⟨(.some 7), (.mov (.t 13)), .none⟩,
   ⟨(.some 14), (.ext (.t 7) 0), .none⟩,
   ⟨(.some 15), (.ext (.t 7) 1), .none⟩,
   ⟨(.some 2), (.mov (.t 14)), .none⟩,
   ⟨(.some 3), (.mov (.t 15)), .none⟩])
 c28_2))
abbrev c28_0 : PCode :=
 (.seq (.region [⟨(.some 4), (.bld [(.d (.int .u8 0)), (.d (.int .i64 0)), (.full []), (.full [])] [(0, (1, (.c (.d (.int .u8 0)))))]), .none⟩,
   ⟨(.some 5), (.bsl 4 [(.t 4)]), .none⟩,
   ⟨(.some 6), (.bld [(.d (.int .u8 0)), (.d (.int .i64 0)), (.full []), (.full [])] [(0, (1, (.c (.d (.int .u8 5))))), (1, (1, (.c (.d (.int .i64 5))))), (3, (1, (.t 5)))]), .none⟩,
   ⟨(.some 1), (.alloc [(.d (.int .u8 0)), (.d (.int .i64 0)), (.full []), (.full [])]), .none⟩,
   ⟨.none, (.store 4 (.t 1) (.t 6)), .none⟩])
 c28_1)
def c28 : PFun := ⟨
 (.seq (.region [⟨(.some 0), (.mov (.c (.d (.bool .false)))), .none⟩])
 c28_0),
 0, 23, [(.tmp 0)]⟩

theorem e29 : entered Try.prog 29 = true := by kernel_rfl
theorem k29 : compFun Try.prog (fun _ => 0) 29 = some c29.er := by kernel_rfl
theorem e28 : entered Try.prog 28 = true := by kernel_rfl
theorem k28 : compFun Try.prog (fun _ => 0) 28 = some c28.er := by kernel_rfl


/-- A text of bytes. -/
def strOfL (l : List Int) : ByteArray := ⟨(l.map fun n => UInt8.ofNat n.toNat).toArray⟩
theorem strOf_rowsB : ∀ l : List Int, strOfRows (rowsB l) = some (l.map fun n => UInt8.ofNat n.toNat)
  | [] => rfl
  | n :: l => by
    have := strOf_rowsB l
    simp only [rowsB] at this
    simp only [rowsB, List.map_cons, strOfRows, this, Option.map_some]
theorem ev_strOf {G : Glob} {s : Slots} {x : Arg} {l : List Int} (hx : x.ev G s = .d (.sl (rowsB l))) : ev G s (.strOf x) = some (.d (.str (strOfL l))) := by
  simp only [ev, hx, AV.rows?, Option.bind_some, strOf_rowsB, Option.map_some]; rfl
theorem strOfL_app (l r : List Int) : strOfL l ++ strOfL r = strOfL (l ++ r) := by
  apply ByteArray.ext
  rw [ByteArray.data_append]
  simp [strOfL]
theorem strOfL_size (l : List Int) : (strOfL l).size = l.length := by
  show ((l.map fun n => UInt8.ofNat n.toNat).toArray).size = _
  rw [List.size_toArray, List.length_map]
theorem strOfL_eq {l r : List Int} (hl : bytesL l) (hr : bytesL r) : ((strOfL l).toList == (strOfL r).toList) = (l == r) := by
  rw [Bool.eq_iff_iff, beq_iff_eq, beq_iff_eq]
  constructor
  · intro h
    have h1 := congrArg ByteArray.data (size_of_toList h)
    have h2 : (l.map fun n => UInt8.ofNat n.toNat) = (r.map fun n => UInt8.ofNat n.toNat) := by
      have := congrArg Array.toList h1
      simpa [strOfL] using this
    have key : ∀ (l r : List Int), bytesL l → bytesL r → (l.map fun n => UInt8.ofNat n.toNat) = (r.map fun n => UInt8.ofNat n.toNat) → l = r := by
      intro l
      induction l with
      | nil => intro r _ _ h; cases r with | nil => rfl | cons => cases h
      | cons x xs ih =>
        intro r h1 h2 h
        cases r with
        | nil => cases h
        | cons y ys =>
          simp only [List.map_cons, List.cons.injEq] at h
          have hx := h1 x List.mem_cons_self
          have hy := h2 y List.mem_cons_self
          have h3 := congrArg UInt8.toNat h.1
          rw [UInt8.toNat_ofNat', UInt8.toNat_ofNat'] at h3
          have : x = y := by omega
          rw [this, ih ys (fun z hz => h1 z (List.mem_cons_of_mem _ hz)) (fun z hz => h2 z (List.mem_cons_of_mem _ hz)) h.2]
    exact key l r hl hr h2
  · rintro rfl; rfl
theorem wrBytes (pw : Nat) (v : AV) (l : List Int) (hl : l.length < 2 ^ 41) : CL (PCalls Try.prog GG) 51 [ptrAt pw] (wrF pw v l) (fun x : AV × AV => x.2) (fun x => .vec x.2 (rowsB l) 1 :: wrF pw x.1 l) := by
  refine ⟨?_, ?_⟩
  · intro N
    refine ⟨(.full (rowsB l), .full (rowsB l)), fun x hx => ?_, ?_⟩
    · simp only [wrF, List.mem_cons, List.not_mem_nil, or_false] at hx
      rcases hx with rfl | rfl | rfl
      · rfl
      · exact .inl ⟨_, List.mem_cons_self, _, rfl⟩
      · rfl
    · simp [wrF, Item.blk, AV.own?]
  simp only [wrF]
  intro st t hL; refine pcalls_of k51 e51 (of_decide_eq_true rfl) ?_; dsimp only [c51]; generalize hQ : pfin _ _ = Q
  have fv := hL.vk v
  obtain ⟨fv_r, fv_w, fv_w1, fv_c, fv_s, fv_d⟩ := id fv
  refine gor hL ?_; (repeat (clear hL; intro t hL; refine gor hL ?_))
  replace hL := hL.full [] 1
  refine po_appA (rows := []) (hn := rowsB_len _) hL (fun r h => (by cases h)) ?_ ?_
  · simp; omega
  clear hL; intro a t fa hL
  rw [List.nil_append] at hL fa
  obtain ⟨fa_r, fa_w, fa_w1, fa_c, fa_s, fa_d⟩ := id fa
  refine gor hL ?_; (repeat (clear hL; intro t hL; refine gor hL ?_))
  rw [← hQ]
  exact pfinK (v, a) rfl (.inl rfl) hL

/-- The bytes, the error's number. -/
def putE (e : Nat) (T : KT) (v : VT) : List Int := if VT.is e T v = true ∧ (putR e T v).length ≤ 4000 then putR e T v else []
def putN (e : Nat) (T : KT) (v : VT) : Int := if VT.is e T v = true then (if (putR e T v).length ≤ 4000 then 0 else 6) else 17
theorem C29 {e : Nat} {T : KT} (hW : WT e T) (he : e ≤ 20) (v : VT) (hv : v.fit) (hlen : VT.is e T v = true → (putR e T v).length < 2 ^ 39) : Pure (PCalls Try.prog GG) 29 [T.av, v.av] (.tup [.d (.sl (rowsB (putE e T v))), .d (.int .i64 (putN e T v))]) := by
  have hCh := C22 T v hW.fit hv
  rw [VT.checkE, is_deep hW 20 _ he] at hCh
  have hp := fun pw a (h : VT.is e T v = true) => putC pw e T v a [] hW h hv (by have := hlen h; simp; omega)
  have hLen := fun pw a => wrLen pw a (putR e T v)
  have hBy := fun pw a (h : (putR e T v).length < 2 ^ 41) => wrBytes pw a (putR e T v) h
  simp only [VT.av_eq, KT.av_eq, wrF, List.nil_append] at hCh hp hLen hBy ⊢
  intro st; refine pcalls_of k29 e29 (of_decide_eq_true rfl) ?_; dsimp only [c29]; refine pstartL ?_; intro t hL; generalize hQ : pfin _ _ = Q
  (refine gor hL ?_; (repeat (clear hL; intro t hL; refine gor hL ?_))); refine po_boxA hL ?_; clear hL; intro p2 t hL
  (refine gor hL ?_; (repeat (clear hL; intro t hL; refine gor hL ?_))); refine po_boxA hL ?_; clear hL; intro p3 t hL
  refine gor hL ?_; (repeat (clear hL; intro t hL; refine gor hL ?_))
  refine po_c0 (hCh) ?_
  refine gor hL ?_; (repeat (clear hL; intro t hL; refine gor hL ?_))
  cases his : VT.is e T v
  · rw [putE, putN, his] at hQ
    simp only [Bool.false_eq_true, false_and, if_false] at hQ ⊢
    refine gor hL ?_; (repeat (clear hL; intro t hL; refine gor hL ?_))
    rw [← hQ]
    exact pfin_weak (pret_two rfl rfl) rfl hL.le
  · rw [putE, putN, his] at hQ
    simp only [true_and, if_true] at hQ ⊢
    refine gor hL ?_; (repeat (clear hL; intro t hL; refine gor hL ?_))
    (refine gor hL ?_; (repeat (clear hL; intro t hL; refine gor hL ?_))); refine po_boxA hL ?_; clear hL; intro p7 t hL
    refine gor hL ?_; (repeat (clear hL; intro t hL; refine gor hL ?_))
    replace hL := hL.full [] 1
    refine po_callK hL ((hp _ _ his)) ?_; clear hL; intro a t hL; have fa := hL.vk a; obtain ⟨fa_r, fa_w, fa_w1, fa_c, fa_s, fa_d⟩ := id fa
    refine gor hL ?_; (repeat (clear hL; intro t hL; refine gor hL ?_))
    refine po_callK hL ((hLen _ _)) ?_; clear hL; intro b t hL; have fb := hL.vk b; obtain ⟨fb_r, fb_w, fb_w1, fb_c, fb_s, fb_d⟩ := id fb
    refine gor hL ?_; (repeat (clear hL; intro t hL; refine gor hL ?_))
    refine pcond_b rfl (fun h => ?_) (fun h => ?_)
    · have h' : ¬ (putR e T v).length ≤ 4000 := by
        have : ((putR e T v).length : Int) > 4000 := by simpa using h
        omega
      simp only [if_neg h'] at hQ
      refine gor hL ?_; (repeat (clear hL; intro t hL; refine gor hL ?_))
      rw [← hQ]
      exact pfin_weak (pret_two rfl rfl) rfl hL.le
    · have h' : (putR e T v).length ≤ 4000 := by
        have : ¬ ((putR e T v).length : Int) > 4000 := by simpa using h
        omega
      simp only [if_pos h'] at hQ
      refine gor hL ?_; (repeat (clear hL; intro t hL; refine gor hL ?_))
      refine po_callK hL (hBy _ _ (by omega)) ?_
      clear hL; intro c t hL
      obtain ⟨c1, c2⟩ := c
      simp only at hL
      have fc := hL.vk c2
      obtain ⟨fc_r, fc_w, fc_w1, fc_c, fc_s, fc_d⟩ := id fc
      refine gor hL ?_; (repeat (clear hL; intro t hL; refine gor hL ?_))
      rw [← hQ]
      refine pfin_weak (pret_two rfl rfl) ?_ hL.le
      simp only [pvwk]
      show AV.tup [c2.weakA, _] = _
      rw [fc.weakA]; rfl
theorem putAwake : Pure (PCalls Try.prog GG) 28 [] (b2 true) := by
  have hw : WT 2 (.mk 5 5 [] [.mk 0 0 [] []]) := .seq 1 5 _ (by decide) (.base 0 0 (by decide))
  have hf : (VT.mk 0 0 (bs []) [VT.num 1, VT.num 0]).fit := .mk (by decide) (by decide) (by decide) (by decide) fun x hx => by
    have : x = VT.num 1 ∨ x = VT.num 0 := by simpa using hx
    rcases this with rfl | rfl <;> exact fit_num (by decide)
  have hp := C29 hw (by decide) _ hf (fun _ => by decide)
  have hi : VT.is 2 (.mk 5 5 [] [.mk 0 0 [] []]) (VT.mk 0 0 (bs []) [VT.num 1, VT.num 0]) = true := by
    rw [is5]; simp [noFT_zero, VT.pj, VT.num, is0, List.getD_eq_getElem?_getD]
  have h1 : putE 2 (.mk 5 5 [] [.mk 0 0 [] []]) (VT.mk 0 0 (bs []) [VT.num 1, VT.num 0]) = [0, 2, 0, 1, 0, 0] := by
    rw [putE, if_pos ⟨hi, by decide⟩]; decide
  have h2 : putN 2 (.mk 5 5 [] [.mk 0 0 [] []]) (VT.mk 0 0 (bs []) [VT.num 1, VT.num 0]) = 0 := by
    rw [putN, if_pos hi, if_pos (by decide)]
  rw [h1, h2] at hp
  have hp' : Pure (PCalls Try.prog GG) 29 [.agg [.d (.int .u8 5), .d (.int .i64 5), .d (.sl []), .d (.sl [[.int .u8 0, .int .i64 0, .sl [], .sl []]])], .agg [.d (.int .i64 0), .d (.flt .f64 0), .d (.str (bs [])), .d (.sl [[.int .i64 1, .flt .f64 0, .str (bs []), .sl []], [.int .i64 0, .flt .f64 0, .str (bs []), .sl []]])]] (.tup [.d (.sl [[.int .u8 0], [.int .u8 2], [.int .u8 0], [.int .u8 1], [.int .u8 0], [.int .u8 0]]), .d (.int .i64 0)]) := hp
  clear hp
  intro st; refine pcalls_of k28 e28 (of_decide_eq_true rfl) ?_; dsimp only [c28]; refine pstartL ?_; intro t hL; generalize hQ : pfin _ _ = Q
  (refine gor hL ?_; (repeat (clear hL; intro t hL; refine gor hL ?_))); (with_reducible refine po_allocL hL rfl ?_); clear hL; intro p1 t hL
  refine gor hL ?_; (repeat (clear hL; intro t hL; refine gor hL ?_))
  refine po_c0 (hp') ?_
  refine gor hL ?_; (repeat (clear hL; intro t hL; refine gor hL ?_))
  rw [← hQ]
  refine pfin_pure (congrArg (fun z => some (b2 z)) ?_) hL.le
  exact beq_iff_eq.2 rfl
end Go.Pv
