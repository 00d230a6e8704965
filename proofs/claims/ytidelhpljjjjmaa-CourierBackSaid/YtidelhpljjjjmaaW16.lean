/- Functions of the program, by value. No condition. -/
import Derived.Test.YtidelhpljjjjmaaW15
import Derived.Test.YtidelhpljjjjmaaW12
namespace Go.Pv
open Go.Proofs
set_option maxRecDepth 100000
set_option maxHeartbeats 8000000
/-- prompter/prompterlaw09.CourierBack -/
abbrev c11_2 : PCode :=
 (.seq (.region [⟨(.some 10), (.mov (.c (.d (.bool .false)))), .none⟩])
 .ret)
abbrev c11_1 : PCode :=
 (.cond (.t 20)
  c11_2
  .skip)
abbrev c11_5 : PCode :=
 (.seq (.region [⟨(.some 10), (.mov (.c (.d (.bool .true)))), .none⟩])
 .ret)
abbrev c11_4 : PCode :=
 (.cond (.t 33)
  c11_5
  .skip)
abbrev c11_11 : PCode :=
 (.region [⟨(.some 49), (.load .true 4 (.t 13) .false), .none⟩,
   ⟨.none, (.store 4 (.t 12) (.t 49)), .none⟩])
abbrev c11_10 : PCode :=
 (.cond (.t 48)
  c11_11
  .skip)
abbrev c11_9 : PCode :=
 (.keep [11, 12, 13] (.seq (.region [⟨(.some 45), (.load .true 4 (.t 11) .false), .none⟩,
   ⟨(.some 46), (.load .true 4 (.t 13) .false), .none⟩,
   ⟨(.some 47), (.call0 22 [(.t 45), (.t 46)]), .none⟩,
   ⟨(.some 48), (.bin .eql (.t 47) (.c (.d (.int .i64 0)))), .none⟩])
 c11_10))
abbrev c11_16 : PCode :=
 (.seq (.region [⟨(.some 64), (.mov (.t 16)), .none⟩,
   ⟨(.some 65), (.bin .eql (.t 64) (.c (.d (.int .i64 6)))), .none⟩,
   ⟨(.some 66), (.mov (.t 65)), .none⟩,
   ⟨(.some 67), (.mov (.t 15)), (.some (66, .true))⟩,
   ⟨(.some 68), (.len (.t 67)), (.some (66, .true))⟩,
   ⟨(.some 69), (.bin .eql (.t 68) (.c (.d (.int .i64 0)))), (.some (66, .true))⟩,
   ⟨(.some 70), (.pick (.t 66) (.t 69) (.c (.d (.bool .false)))), .none⟩,
   ⟨(.some 10), (.mov (.t 70)), .none⟩])
 .ret)
abbrev c11_15 : PCode :=
 (.cond (.t 63)
  c11_16
  .skip)
abbrev c11_18 : PCode :=
 (.keep [12, 14, 15, 16, 17, 18] (.seq (.region [⟨(.some 77), (.mov (.t 16)), .none⟩,
   ⟨(.some 78), (.bin .eql (.t 77) (.c (.d (.int .i64 0)))), .none⟩,
   ⟨(.some 79), (.mov (.t 78)), .none⟩,
   ⟨(.some 80), (.mov (.t 15)), (.some (79, .true))⟩,
   ⟨(.some 81), (.strOf (.t 80)), (.some (79, .true))⟩,
   ⟨(.some 82), (.mov (.t 14)), (.some (79, .true))⟩,
   ⟨(.some 83), (.strOf (.t 82)), (.some (79, .true))⟩,
   ⟨(.some 84), (.bin .eql (.t 81) (.t 83)), (.some (79, .true))⟩,
   ⟨(.some 85), (.pick (.t 79) (.t 84) (.c (.d (.bool .false)))), .none⟩,
   ⟨(.some 86), (.mov (.t 85)), .none⟩,
   ⟨(.some 87), (.mov (.t 18)), (.some (86, .true))⟩,
   ⟨(.some 88), (.bin .eql (.t 87) (.c (.d (.int .i64 0)))), (.some (86, .true))⟩,
   ⟨(.some 89), (.pick (.t 86) (.t 88) (.c (.d (.bool .false)))), .none⟩,
   ⟨(.some 90), (.mov (.t 89)), .none⟩,
   ⟨(.some 91), (.load .true 4 (.t 12) .false), (.some (90, .true))⟩,
   ⟨(.some 92), (.load .true 4 (.t 17) .false), (.some (90, .true))⟩,
   ⟨(.some 93), (.call0 18 [(.t 91), (.t 92)]), (.some (90, .true))⟩,
   ⟨(.some 94), (.pick (.t 90) (.t 93) (.c (.d (.bool .false)))), .none⟩,
   ⟨(.some 10), (.mov (.t 94)), .none⟩])
 .ret))
abbrev c11_17 : PCode :=
 (.keep [11, 12, 14, 15, 16] (.seq (.region [⟨(.some 72), (.load .true 4 (.t 11) .false), .none⟩,
   ⟨(.some 73), (.mov (.t 15)), .none⟩,
   ⟨(.some 74), (.call0 30 [(.t 72), (.t 73)]), .none⟩,
   ⟨(.some 71), (.mov (.t 74)), .none⟩,
   ⟨(.some 75), (.ext (.t 71) 0), .none⟩,
   ⟨(.some 76), (.ext (.t 71) 1), .none⟩,
   ⟨(.some 17), (.alloc [(.d (.int .i64 0)), (.d (.flt .f64 0)), (.d (.str (bs []))), (.full [])]), .none⟩,
   ⟨.none, (.store 4 (.t 17) (.t 75)), .none⟩,
   ⟨(.some 18), (.mov (.t 76)), .none⟩])
 c11_18))
abbrev c11_14 : PCode :=
 (.keep [11, 12, 14, 15, 16] (.seq (.seq (.region [⟨(.some 61), (.mov (.t 14)), .none⟩,
   ⟨(.some 62), (.len (.t 61)), .none⟩,
   ⟨(.some 63), (.bin .gtr (.t 62) (.c (.d (.int .i64 4000)))), .none⟩])
 c11_15)
 c11_17))
abbrev c11_13 : PCode :=
 (.keep [11, 12, 14] (.seq (.region [⟨(.some 56), (.load .true 4 (.t 11) .false), .none⟩,
   ⟨(.some 57), (.load .true 4 (.t 12) .false), .none⟩,
   ⟨(.some 58), (.call0 29 [(.t 56), (.t 57)]), .none⟩,
   ⟨(.some 55), (.mov (.t 58)), .none⟩,
   ⟨(.some 59), (.ext (.t 55) 0), .none⟩,
   ⟨(.some 60), (.ext (.t 55) 1), .none⟩,
   ⟨(.some 15), (.mov (.t 59)), .none⟩,
   ⟨(.some 16), (.mov (.t 60)), .none⟩])
 c11_14))
abbrev c11_12 : PCode :=
 (.keep [11, 12] (.seq (.region [⟨(.some 50), (.load .true 4 (.t 11) .false), .none⟩,
   ⟨(.some 51), (.callp 20 [(.t 50)]), .none⟩,
   ⟨(.some 52), (.load .true 4 (.t 12) .false), .none⟩,
   ⟨(.some 53), (.callp 21 [(.t 52)]), .none⟩,
   ⟨(.some 54), (.callp 31 [(.t 51), (.t 53)]), .none⟩,
   ⟨(.some 14), (.mov (.t 54)), .none⟩])
 c11_13))
abbrev c11_8 : PCode :=
 (.keep [2, 3, 4, 11, 12] (.seq (.seq (.region [⟨(.some 39), (.load .true 4 (.t 12) .false), .none⟩,
   ⟨(.some 40), (.mov (.t 2)), .none⟩,
   ⟨(.some 41), (.mov (.t 3)), .none⟩,
   ⟨(.some 42), (.mov (.t 4)), .none⟩,
   ⟨(.some 43), (.callp 16 [(.t 41), (.t 42)]), .none⟩,
   ⟨(.some 44), (.callp 17 [(.t 39), (.t 40), (.c (.d (.int .u8 1))), (.c (.d (.int .i64 0))), (.t 43), (.c (.d (.str (bs []))))]), .none⟩,
   ⟨(.some 13), (.alloc [(.d (.int .i64 0)), (.d (.flt .f64 0)), (.d (.str (bs []))), (.full [])]), .none⟩,
   ⟨.none, (.store 4 (.t 13) (.t 44)), .none⟩])
 c11_9)
 c11_12))
abbrev c11_7 : PCode :=
 (.keep [1, 2, 3, 4, 11] (.seq (.region [⟨(.some 36), (.load .true 4 (.t 11) .false), .none⟩,
   ⟨(.some 37), (.mov (.t 1)), .none⟩,
   ⟨(.some 38), (.call0 14 [(.t 36), (.t 37)]), .none⟩,
   ⟨(.some 12), (.alloc [(.d (.int .i64 0)), (.d (.flt .f64 0)), (.d (.str (bs []))), (.full [])]), .none⟩,
   ⟨.none, (.store 4 (.t 12) (.t 38)), .none⟩])
 c11_8))
abbrev c11_6 : PCode :=
 (.keep [1, 2, 3, 4, 5] (.seq (.region [⟨(.some 34), (.load .true 3 (.t 5) .false), .none⟩,
   ⟨(.some 35), (.call0 15 [(.t 34)]), .none⟩,
   ⟨(.some 11), (.alloc [(.d (.int .u8 0)), (.d (.int .i64 0)), (.full []), (.full [])]), .none⟩,
   ⟨.none, (.store 4 (.t 11) (.t 35)), .none⟩])
 c11_7))
abbrev c11_3 : PCode :=
 (.keep [1, 2, 3, 4, 5] (.seq (.seq (.region [⟨(.some 21), (.load .true 3 (.t 5) .false), .none⟩,
   ⟨(.some 22), (.call0 13 [(.t 21), (.c (.d (.int .i64 4)))]), .none⟩,
   ⟨(.some 23), (.not (.t 22)), .none⟩,
   ⟨(.some 24), (.mov (.t 23)), .none⟩,
   ⟨(.some 25), (.mov (.t 1)), (.some (24, .false))⟩,
   ⟨(.some 26), (.len (.t 25)), (.some (24, .false))⟩,
   ⟨(.some 27), (.bin .gtr (.t 26) (.c (.d (.int .i64 60)))), (.some (24, .false))⟩,
   ⟨(.some 28), (.pick (.t 24) (.c (.d (.bool .true))) (.t 27)), .none⟩,
   ⟨(.some 29), (.mov (.t 28)), .none⟩,
   ⟨(.some 30), (.mov (.t 2)), (.some (29, .false))⟩,
   ⟨(.some 31), (.len (.t 30)), (.some (29, .false))⟩,
   ⟨(.some 32), (.bin .gtr (.t 31) (.c (.d (.int .i64 10)))), (.some (29, .false))⟩,
   ⟨(.some 33), (.pick (.t 29) (.c (.d (.bool .true))) (.t 32)), .none⟩])
 c11_4)
 c11_6))
abbrev c11_0 : PCode :=
 (.seq (.seq (.region [⟨(.some 19), (.call0 28 []), .none⟩,
   ⟨(.some 20), (.not (.t 19)), .none⟩])
 c11_1)
 c11_3)
def c11 : PFun := ⟨
 (.seq (.region [⟨(.some 5), (.box 3 (.t 0)), .none⟩,
   ⟨(.some 10), (.mov (.c (.d (.bool .false)))), .none⟩])
 c11_0),
 5, 95, [(.tmp 10)]⟩

theorem e11 : entered Try.prog 11 = true := by kernel_rfl
theorem k11 : compFun Try.prog (fun i => if i = 7 then 1 else if i = 10 then 1 else 0) 11 = some c11.er := by kernel_rfl


theorem flat_le {f : Nat → List Int} {B : Nat} : ∀ {n : Nat} (_ : ∀ i, i < n → (f i).length ≤ B), ((List.range n).flatMap f).length ≤ n * B
  | 0, _ => by simp
  | n + 1, h => by
    have h1 := flat_le (n := n) fun i hi => h i (by omega)
    have h2 := h n (Nat.lt_succ_self n)
    rw [List.range_succ, List.flatMap_append, List.length_append]
    simp only [List.flatMap_cons, List.flatMap_nil, List.append_nil]
    rw [Nat.succ_mul]; omega
theorem putR_le {e : Nat} {T : KT} (hW : WT e T) : ∀ {v : VT}, VT.is e T v = true → (putR e T v).length ≤ 64 ^ e := by
  have h64 : ∀ e : Nat, 64 ≤ 64 ^ (e + 1) := fun e => by
    have : 1 ≤ 64 ^ e := Nat.pow_pos (by decide)
    rw [Nat.pow_succ]; omega
  induction hW with
  | base e k hk =>
    intro v his
    have := h64 e
    have : k = 0 ∨ k = 1 ∨ k = 2 ∨ k = 3 := by omega
    rcases this with rfl | rfl | rfl | rfl
    · rw [is0] at his; simp only [pvq] at his
      rw [put0 _ _ _ _ _ (by decide) (by omega), wordB_len]; omega
    · rw [is1] at his; simp only [pvq] at his
      rw [put0 _ _ _ _ _ (by decide) (by omega), wordB_len]; omega
    · show (longB _).length ≤ _
      rw [longB_len]; omega
    · show (quadB _).length ≤ _
      rw [quadB_len]; omega
  | text e m hm =>
    intro v his
    have := h64 e
    rw [is4] at his; simp only [pvq] at his
    show (textB _).length ≤ _
    unfold textB
    rw [List.length_append, List.length_append, strB_len, wordB_len]
    split <;> simp <;> omega
  | enum e n hl hf =>
    intro v his
    have := h64 e
    rw [is7] at his; simp only [pvq] at his
    rw [put0 _ _ _ _ _ (by decide) (by omega), wordB_len]; omega
  | seq e m o hm ho ih =>
    intro v his
    rw [is5] at his; simp only [pvq] at his
    have hall := List.all_eq_true.1 his.2
    rw [put5, List.length_append, wordB_len]
    have h1 := flat_le (f := fun i => putR e o (v.of.getD i VT.zero)) (B := 64 ^ e) (n := v.of.length) fun i hi => by
      have e1 : v.of.getD i VT.zero = v.of[i] := by rw [List.getD_eq_getElem?_getD, List.getElem?_eq_getElem hi]; rfl
      rw [e1]
      exact ih (hall _ (List.getElem_mem hi))
    have h2 : v.of.length * 64 ^ e ≤ 60 * 64 ^ e := Nat.mul_le_mul_right _ (by omega)
    have h3 : 1 ≤ 64 ^ e := Nat.pow_pos (by decide)
    rw [Nat.pow_succ]; omega
  | reco e k n o hk hl hn hf ho ih =>
    intro v his
    have h3 : 1 ≤ 64 ^ e := Nat.pow_pos (by decide)
    rcases hk with rfl | rfl
    · rw [is6] at his; simp only [pvq] at his
      rw [put6, List.length_append, List.length_nil]
      have h1 := flat_le (f := fun i => putR e (o.getD i (.mk 0 0 [] [])) (v.of.getD i VT.zero)) (B := 64 ^ e) (n := v.of.length) fun i hi => by
        have hio : i < o.length := by omega
        have e1 : v.of.getD i VT.zero = v.of[i] := by rw [List.getD_eq_getElem?_getD, List.getElem?_eq_getElem hi]; rfl
        have e3 : o.getD i (.mk 0 0 [] []) = o[i] := by rw [List.getD_eq_getElem?_getD, List.getElem?_eq_getElem hio]; rfl
        rw [e1, e3]
        exact ih _ (List.getElem_mem hio) (allZip_get his.2 i _ _ (List.getElem?_eq_getElem hio) (List.getElem?_eq_getElem hi))
      have h2 : v.of.length * 64 ^ e ≤ 3 * 64 ^ e := Nat.mul_le_mul_right _ (by omega)
      rw [Nat.pow_succ]; omega
    · rw [is8] at his; simp only [pvq] at his
      have hj : v.n.toNat < o.length := by omega
      have e3 : o.getD v.n.toNat (.mk 0 0 [] []) = o[v.n.toNat] := by rw [List.getD_eq_getElem?_getD, List.getElem?_eq_getElem hj]; rfl
      rw [put8, List.length_append, wordB_len]
      have h1 := flat_le (f := fun i => putR e (o.getD v.n.toNat (.mk 0 0 [] [])) (v.of.getD i VT.zero)) (B := 64 ^ e) (n := v.of.length) fun i hi => by
        have e1 : v.of.getD i VT.zero = v.of[i] := by rw [List.getD_eq_getElem?_getD, List.getElem?_eq_getElem hi]; rfl
        have e0 : v.of.getD 0 VT.zero = v.of[i] := by
          have : i = 0 := by omega
          subst this; exact e1
        have h2 := his.2
        rw [e3, e0] at h2
        rw [e1, e3]
        exact ih _ (List.getElem_mem hj) h2
      have h2 : v.of.length * 64 ^ e ≤ 3 * 64 ^ e := Nat.mul_le_mul_right _ (by omega)
      rw [Nat.pow_succ]; omega
/-- What was put is taken. -/
theorem take_back {e : Nat} {T : KT} (hW : WT e T) {v : VT} (hv : v.fit) (iv : VT.is e T v = true) (h4 : (putR e T v).length ≤ 4000) : takeN (putR e T v) e T = 0 ∧ VT.same v (takeV (putR e T v) e T) = true := by
  obtain ⟨y, h1, h2⟩ := takeM_at (l := putR e T v) hW hv iv 0 [] (Nat.zero_le _) (by rw [List.append_nil]; rfl)
  rw [Nat.zero_add] at h1
  have he : endN (putR e T v) (takeM (putR e T v) e T ⟨0, 0⟩).2 = 0 := by
    rw [h1, endN, if_neg (fun h => absurd h.2 (Nat.lt_irrefl _))]
  rw [takeN, takeV, if_pos h4, if_pos ⟨h4, he⟩, h1]
  rw [h1] at he
  exact ⟨he, h2⟩
theorem C11 (x : Nd) (hx : x.fit) (l : List Int) (hr : ∀ x ∈ l, -9223372036854775808 ≤ x ∧ x ≤ 9223372036854775807) (path : List Int) (hpr : ∀ p ∈ path, 0 ≤ p ∧ p ≤ 255) (f e : Int) (hf : 0 ≤ f ∧ f ≤ 18446744073709551615) (he : 0 ≤ e ∧ e ≤ 255) :
    Pure (PCalls Try.prog GG) 11 [x.av, .d (i64s l), .d (u8s path), .d (.int .u64 f), .d (.int .u8 e)] (b2 true) := by
  obtain ⟨a, ha, hA⟩ := C16 f e hf he
  intro st; refine pcalls_of k11 e11 (of_decide_eq_true rfl) ?_; dsimp only [c11]; refine pstartL ?_; intro t hL; generalize hQ : pfin _ _ = Q
  (refine gor hL ?_; (repeat (clear hL; intro t hL; refine gor hL ?_))); refine po_boxA hL ?_; clear hL; intro p5 t hL
  refine gor hL ?_; (repeat (clear hL; intro t hL; refine gor hL ?_))
  refine po_c0 (putAwake) ?_
  refine gor hL ?_; (repeat (clear hL; intro t hL; refine gor hL ?_))
  refine po_c0 (C13 x 4 hx (by decide)) ?_
  refine gor hL ?_; (repeat (clear hL; intro t hL; refine gor hL ?_))
  refine pcond_b rfl (fun hq => ?_) (fun hq => ?_)
  · refine gor hL ?_; (repeat (clear hL; intro t hL; refine gor hL ?_))
    rw [← hQ]
    exact pfin_pure rfl hL.le
  simp only [Bool.or_eq_false_iff, decide_eq_false_iff_not] at hq
  have hl : l.length < 2 ^ 40 := by omega
  have hp : path.length < 2 ^ 40 := by omega
  obtain ⟨t1, t2, t3⟩ := typ_le hx
  have hW : WT 4 (Nd.typ 4 x []) := .of_typ (by decide) hx
  have hTp := C15 x hx
  have hV := C14 l hl hr _ t1 t2 t3
  have hvf : (buildV l (Nd.typ 4 x [])).fitB 4 := buildM_few hr (.of_typ (by decide) hx) 20 0 0
  have hiv : VT.is 4 (Nd.typ 4 x []) (buildV l (Nd.typ 4 x [])) = true := by rw [← is_deep hW 20 _ (by decide)]; exact buildV_is hr (by decide) hW
  generalize Nd.typ 4 x [] = T at *
  generalize buildV l T = V at *
  have hta := C17 1 0 a (bs []) (by decide) path V (hvf.fit (by decide)) hp hpr
  have hwf : (VT.turned 1 0 a (bs []) path V).fit := (VT.turned_fit (by decide) (by decide) ha (by decide) path V hvf).fit (by decide)
  generalize VT.turned 1 0 a (bs []) path V = X at *
  have hCk := C22 T X t1 hwf
  rw [VT.checkE, is_deep hW 20 _ (by decide)] at hCk
  have hRT := C20 4 T hW
  have main : ∀ {W : VT}, VT.is 4 T W = true → W.fit →
      (∀ (P : Prop), ((Pure (PCalls Try.prog GG) 21 [W.av] W.av) → (Pure (PCalls Try.prog GG) 31 [T.rav, W.av] (.d (.sl (rowsB (putR 4 T W))))) → (Pure (PCalls Try.prog GG) 29 [T.av, W.av] (.tup [.d (.sl (rowsB (putE 4 T W))), .d (.int .i64 (putN 4 T W))])) → P) → P) := by
    intro W iw fw P k
    have hb : (putR 4 T W).length < 2 ^ 39 := by
      have := putR_le hW iw
      omega
    refine k (C21 W fw) ?_ (C29 hW (by decide) W fw fun _ => hb)
    exact (refPutC 4 T W hW iw fw (by omega)).pure fun a st t h => by
      rw [(h.vf (v := a) Rem.head).weak]
  simp only [VT.av_eq, KT.av_eq, KT.rav_eq] at hTp hV hRT hta hCk
  refine gor hL ?_; (repeat (clear hL; intro t hL; refine gor hL ?_))
  refine po_c0 (hTp) ?_
  refine gor hL ?_; (repeat (clear hL; intro t hL; refine gor hL ?_))
  (refine gor hL ?_; (repeat (clear hL; intro t hL; refine gor hL ?_))); (with_reducible refine po_allocL hL rfl ?_); clear hL; intro p11 t hL
  refine gor hL ?_; (repeat (clear hL; intro t hL; refine gor hL ?_)); (repeat (refine pseqk ?_; refine gor hL ?_; (repeat (clear hL; intro t hL; refine gor hL ?_))))
  refine po_c0 (hV) ?_
  refine gor hL ?_; (repeat (clear hL; intro t hL; refine gor hL ?_))
  (refine gor hL ?_; (repeat (clear hL; intro t hL; refine gor hL ?_))); (with_reducible refine po_allocL hL rfl ?_); clear hL; intro p12 t hL
  refine gor hL ?_; (repeat (clear hL; intro t hL; refine gor hL ?_)); (repeat (refine pseqk ?_; refine gor hL ?_; (repeat (clear hL; intro t hL; refine gor hL ?_))))
  refine po_cp (hA) ?_
  refine gor hL ?_; (repeat (clear hL; intro t hL; refine gor hL ?_))
  refine po_cp (hta) ?_
  refine gor hL ?_; (repeat (clear hL; intro t hL; refine gor hL ?_))
  (refine gor hL ?_; (repeat (clear hL; intro t hL; refine gor hL ?_))); (with_reducible refine po_allocL hL rfl ?_); clear hL; intro p13 t hL
  refine gor hL ?_; (repeat (clear hL; intro t hL; refine gor hL ?_)); (repeat (refine pseqk ?_; refine gor hL ?_; (repeat (clear hL; intro t hL; refine gor hL ?_))))
  refine po_c0 (hCk) ?_
  refine gor hL ?_; (repeat (clear hL; intro t hL; refine gor hL ?_))
  refine pjoinC (fun s' u => ∃ W : VT, VT.is 4 T W = true ∧ W.fit ∧ s' = put (put (fun _ => .undef) (some 12) (ptrAt p12)) (some 11) (ptrAt p11) ∧ Lay st [.box p12 [.d (.int .i64 W.n), .d (.flt .f64 W.f), .d (.str W.s), .d (.sl (W.of.map VT.row))], .box p11 [.d (.int .u8 T.kind), .d (.int .i64 T.most), .d (.sl (T.names.map fun s => [.str s])), .d (.sl (T.of.map KT.row))]] u) ?_ ?_
  · refine pcond_b rfl (fun h3 => ?_) (fun h3 => ?_)
    · have h3' : VT.is 4 T X = true := by
        by_cases h : VT.is 4 T X = true
        · exact h
        · rw [if_neg h] at h3; simp at h3
      refine gor hL ?_; (repeat (clear hL; intro t hL; refine gor hL ?_))
      exact ⟨X, h3', hwf, (by first | exact trimA | simp +decide only [pvc, pvi, pvt]), hL.pk⟩
    · refine gor hL ?_; (repeat (clear hL; intro t hL; refine gor hL ?_))
      exact ⟨V, hiv, hvf.fit (by decide), (by first | exact trimA | simp +decide only [pvc, pvi, pvt]), hL.pk⟩
  clear hL
  rintro s' t ⟨W, iw, fw, rfl, hL⟩
  refine main iw fw _ fun hRV hRP hPt => ?_
  have hSm := fun w => C18 W w fw
  by_cases h4 : (putR 4 T W).length ≤ 4000
  · obtain ⟨b1, b3⟩ := putN_small iw h4
    obtain ⟨b4, b5⟩ := take_back hW fw iw h4
    have hTk := C30 (putR 4 T W) (putR_bytes 4 T W) (by omega) hW.wo (by decide)
    have hSm := hSm (takeV (putR 4 T W) 4 T)
    rw [b5] at hSm
    rw [b4] at hTk
    rw [b1, b3] at hPt
    generalize takeV (putR 4 T W) 4 T = Z at *
    generalize putR 4 T W = L at *
    simp only [VT.av_eq, KT.av_eq, KT.rav_eq] at hRV hRP hPt hTk hSm
    refine gor hL ?_; (repeat (clear hL; intro t hL; refine gor hL ?_))
    refine po_cp (hRT) ?_
    refine gor hL ?_; (repeat (clear hL; intro t hL; refine gor hL ?_))
    refine po_cp (hRV) ?_
    refine gor hL ?_; (repeat (clear hL; intro t hL; refine gor hL ?_))
    refine po_cp (hRP) ?_
    refine gor hL ?_; (repeat (clear hL; intro t hL; refine gor hL ?_)); (repeat (refine pseqk ?_; refine gor hL ?_; (repeat (clear hL; intro t hL; refine gor hL ?_))))
    refine po_c0 (hPt) ?_
    refine gor hL ?_; (repeat (clear hL; intro t hL; refine gor hL ?_)); (repeat (refine pseqk ?_; refine gor hL ?_; (repeat (clear hL; intro t hL; refine gor hL ?_))))
    refine pcond_b rfl (fun h5 => ?_) (fun h5 => ?_)
    · exfalso
      have : (L.length : Int) > 4000 := by simpa using h5
      omega
    refine gor hL ?_; (repeat (clear hL; intro t hL; refine gor hL ?_)); (repeat (refine pseqk ?_; refine gor hL ?_; (repeat (clear hL; intro t hL; refine gor hL ?_))))
    refine po_c0 (hTk) ?_
    refine gor hL ?_; (repeat (clear hL; intro t hL; refine gor hL ?_))
    (refine gor hL ?_; (repeat (clear hL; intro t hL; refine gor hL ?_))); (with_reducible refine po_allocL hL rfl ?_); clear hL; intro p17 t hL
    refine gor hL ?_; (repeat (clear hL; intro t hL; refine gor hL ?_)); (repeat (refine pseqk ?_; refine gor hL ?_; (repeat (clear hL; intro t hL; refine gor hL ?_))))
    refine po rfl (ev_strOf rfl) ?_
    refine gor hL ?_; (repeat (clear hL; intro t hL; refine gor hL ?_))
    refine po rfl (ev_strOf rfl) ?_
    refine gor hL ?_; (repeat (clear hL; intro t hL; refine gor hL ?_))
    refine gnm ?_; rw [beq_self_eq_true (strOfL L).toList]
    refine gor hL ?_; (repeat (clear hL; intro t hL; refine gor hL ?_))
    refine po_c0 (hSm) ?_
    refine gor hL ?_; (repeat (clear hL; intro t hL; refine gor hL ?_))
    rw [← hQ]
    exact pfin_pure rfl hL.le
  · obtain ⟨b1, b3⟩ := putN_great iw h4
    rw [b1, b3] at hPt
    generalize putR 4 T W = L at *
    simp only [VT.av_eq, KT.av_eq, KT.rav_eq] at hRV hRP hPt
    refine gor hL ?_; (repeat (clear hL; intro t hL; refine gor hL ?_))
    refine po_cp (hRT) ?_
    refine gor hL ?_; (repeat (clear hL; intro t hL; refine gor hL ?_))
    refine po_cp (hRV) ?_
    refine gor hL ?_; (repeat (clear hL; intro t hL; refine gor hL ?_))
    refine po_cp (hRP) ?_
    refine gor hL ?_; (repeat (clear hL; intro t hL; refine gor hL ?_)); (repeat (refine pseqk ?_; refine gor hL ?_; (repeat (clear hL; intro t hL; refine gor hL ?_))))
    refine po_c0 (hPt) ?_
    refine gor hL ?_; (repeat (clear hL; intro t hL; refine gor hL ?_)); (repeat (refine pseqk ?_; refine gor hL ?_; (repeat (clear hL; intro t hL; refine gor hL ?_))))
    refine pcond_b rfl (fun h5 => ?_) (fun h5 => ?_)
    · refine gor hL ?_; (repeat (clear hL; intro t hL; refine gor hL ?_)); (repeat (refine pseqk ?_; refine gor hL ?_; (repeat (clear hL; intro t hL; refine gor hL ?_))))
      rw [← hQ]
      exact pfin_pure rfl hL.le
    · exfalso
      have : ¬ (L.length : Int) > 4000 := by simpa using h5
      omega
end Go.Pv
