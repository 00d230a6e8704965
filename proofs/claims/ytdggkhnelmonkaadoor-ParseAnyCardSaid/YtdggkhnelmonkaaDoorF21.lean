/- Tokens of a text that is put together of pieces, in plain words. No condition. -/
import Derived.Test.YtdggkhnelmonkaaDoorF10
import Derived.Test.YtdggkhnelmonkaaDoorD6
namespace Go.Pv
set_option maxRecDepth 100000

theorem lexGo_fuel (s : ByteArray) : ∀ (f g i : Nat) (out : List LTok), s.size - i < f → s.size - i < g → i ≤ s.size → lexGo s f i out = lexGo s g i out
  | 0, _, _, _, h, _, _ => by omega
  | _, 0, _, _, _, h, _ => by omega
  | f + 1, g + 1, i, out, h1, h2, hi => by
    rw [lexGo, lexGo]
    by_cases hlt : i < s.size
    rotate_left
    · rw [if_neg hlt, if_neg hlt]
    rw [if_pos hlt, if_pos hlt]
    have go : ∀ j out, i + 1 ≤ j → j ≤ s.size → lexGo s f j out = lexGo s g j out := fun j out h3 h4 => lexGo_fuel s f g j out (by omega) (by omega) h4
    by_cases hb : blankB (byteAt s i) = true
    · rw [if_pos hb, if_pos hb]; exact go _ _ (by omega) (by omega)
    rw [if_neg hb, if_neg hb]
    by_cases hc : byteAt s i = 35
    · rw [if_pos hc, if_pos hc]; exact go _ _ (spanB_pos hlt (by rw [hc]; rfl)) (spanB_le _ _ hi).2
    rw [if_neg hc, if_neg hc]
    by_cases hl : letter (byteAt s i) = true
    · rw [if_pos hl, if_pos hl]; exact go _ _ (spanB_pos hlt (by rw [wordB, hl]; rfl)) (spanB_le _ _ hi).2
    rw [if_neg hl, if_neg hl]
    by_cases hd : digit (byteAt s i) = true
    · rw [if_pos hd, if_pos hd]
      split
      · rfl
      · exact go _ _ (spanB_pos hlt hd) (spanB_le _ _ hi).2
    rw [if_neg hd, if_neg hd]
    split
    · exact go _ _ (by omega) (by omega)
    · rfl
def lexF (s : ByteArray) (i : Nat) (out : List LTok) : LexO := lexGo s (s.size - i + 1) i out
theorem lexF_end {s : ByteArray} {out : List LTok} : lexF s s.size out = .ok out := by
  unfold lexF
  rw [lexGo, if_neg (by omega)]
theorem lexF_step {s : ByteArray} {i : Nat} {out : List LTok} (hlt : i < s.size) : lexF s i out =
    if blankB (byteAt s i) = true then lexF s (i + 1) out
    else if byteAt s i = 35 then lexF s (spanB restB s i) out
    else if letter (byteAt s i) = true then lexF s (spanB wordB s i) (out ++ [⟨1, i, s.extract i (spanB wordB s i)⟩])
    else if digit (byteAt s i) = true then
      if spanB digit s i - i > 10 ∨ (byteAt s i = 48 ∧ spanB digit s i - i > 1) then .bad i 22
      else lexF s (spanB digit s i) (out ++ [⟨2, i, s.extract i (spanB digit s i)⟩])
    else if signB (byteAt s i) = true then lexF s (i + 1) (out ++ [⟨3, i, s.extract i (i + 1)⟩])
    else .bad i 13 := by
  have go : ∀ j out, i + 1 ≤ j → j ≤ s.size → lexGo s (s.size - i) j out = lexF s j out := fun j out h3 h4 => lexGo_fuel s _ _ j out (by omega) (by omega) h4
  have hi : i ≤ s.size := by omega
  conv => lhs; unfold lexF
  rw [lexGo, if_pos hlt]
  by_cases hb : blankB (byteAt s i) = true
  · rw [if_pos hb, if_pos hb]; exact go _ _ (by omega) (by omega)
  rw [if_neg hb, if_neg hb]
  by_cases hc : byteAt s i = 35
  · rw [if_pos hc, if_pos hc]; exact go _ _ (spanB_pos hlt (by rw [hc]; rfl)) (spanB_le _ _ hi).2
  rw [if_neg hc, if_neg hc]
  by_cases hl : letter (byteAt s i) = true
  · rw [if_pos hl, if_pos hl]; exact go _ _ (spanB_pos hlt (by rw [wordB, hl]; rfl)) (spanB_le _ _ hi).2
  rw [if_neg hl, if_neg hl]
  by_cases hd : digit (byteAt s i) = true
  · rw [if_pos hd, if_pos hd]
    by_cases h9 : spanB digit s i - i > 10 ∨ (byteAt s i = 48 ∧ spanB digit s i - i > 1)
    · rw [if_pos h9, if_pos h9]
    · rw [if_neg h9, if_neg h9]; exact go _ _ (spanB_pos hlt hd) (spanB_le _ _ hi).2
  rw [if_neg hd, if_neg hd]
  by_cases hs : signB (byteAt s i) = true
  · rw [if_pos hs, if_pos hs]; exact go _ _ (by omega) (by omega)
  · rw [if_neg hs, if_neg hs]
theorem lexM_F (s : ByteArray) (h : s.size ≤ 4000) : lexM s = match lexF s 0 [] with | .ok l => .ok (l ++ [⟨0, s.size, bs []⟩]) | o => o := by
  rw [lexM, if_neg (by omega)]; rfl

/-- A text's bytes. -/
abbrev u8 (c : UInt8) : Int := (c.toNat : Int)
theorem size_toList (s : ByteArray) : s.toList.length = s.size := by rw [ByteArray.toList_eq]; rfl
theorem byteAt_list (s : ByteArray) (i : Nat) : byteAt s i = u8 (s.toList.getD i 0) := rfl
theorem byteAt_mid {s : ByteArray} {pre w post : List UInt8} (h : s.toList = pre ++ (w ++ post)) {j : Nat} (hj : j < w.length) : byteAt s (pre.length + j) = u8 (w[j]) := by
  rw [byteAt_list, h, List.getD_eq_getElem?_getD, List.getElem?_append_right (by omega), List.getElem?_append_left (by omega)]
  simp only [Nat.add_sub_cancel_left, List.getElem?_eq_getElem hj, Option.getD_some]
theorem byteAt_head {s : ByteArray} {pre post : List UInt8} {c : UInt8} (h : s.toList = pre ++ (c :: post)) : byteAt s pre.length = u8 c := by
  have := byteAt_mid (w := [c]) (post := post) (s := s) (pre := pre) h (j := 0) (by simp)
  simpa using this
theorem ba_eq {a b : ByteArray} (h : a.toList = b.toList) : a = b := by
  have := seqB_iff (x := a) (y := b)
  exact this.1 (by unfold seqB; rw [h]; exact beq_self_eq_true _)
theorem toList_append (a b : ByteArray) : (a ++ b).toList = a.toList ++ b.toList := by
  rw [ByteArray.toList_eq, ByteArray.toList_eq, ByteArray.toList_eq, ByteArray.data_append, Array.toList_append]
theorem toList_extract (s : ByteArray) (i j : Nat) : (s.extract i j).toList = (s.toList.take j).drop i := by
  rw [ByteArray.toList_eq, ByteArray.toList_eq, ByteArray.data_extract, Array.toList_extract, List.extract_eq_take_drop, List.take_drop]
  by_cases h : i ≤ j
  · rw [Nat.add_sub_cancel' h]
  · rw [List.drop_eq_nil_of_le (by rw [List.length_take]; omega), List.drop_eq_nil_of_le (by rw [List.length_take]; omega)]
theorem extract_mid {s t : ByteArray} {pre post : List UInt8} (h : s.toList = pre ++ (t.toList ++ post)) : s.extract pre.length (pre.length + t.toList.length) = t := by
  refine ba_eq ?_
  rw [toList_extract, h, ← List.append_assoc, List.take_append_of_le_length (by simp), List.take_of_length_le (by simp), List.drop_left]
/-- The next byte begins another token. -/
def sepL (l : List UInt8) : Prop := ∀ c l', l = c :: l' → wordB (u8 c) = false
theorem sepL_nil : sepL [] := fun _ _ h => by cases h
theorem span_mid {p : Int → Bool} {s : ByteArray} {pre w post : List UInt8} (h : s.toList = pre ++ (w ++ post)) (hw : ∀ c ∈ w, p (u8 c) = true) (hp : ∀ c l', post = c :: l' → p (u8 c) = false) : spanB p s pre.length = pre.length + w.length := by
  have hs : s.size = pre.length + (w.length + post.length) := by rw [← size_toList, h]; simp
  refine spanB_to (fun j hj => ?_) (by omega) ?_
  · rw [byteAt_mid h hj]; exact hw _ (List.getElem_mem _)
  · cases post with
    | nil => left; simp at hs; omega
    | cons c l =>
      right
      have h' : s.toList = (pre ++ w) ++ (c :: l) := by rw [h, List.append_assoc]
      have := byteAt_head h'
      rw [List.length_append] at this
      rw [this]; exact hp c l rfl
/-- Between tokens. -/
inductive GapL : List UInt8 → Prop where
  | nil : GapL []
  | blank (c : UInt8) (g : List UInt8) (hc : blankB (u8 c) = true) (hg : GapL g) : GapL (c :: g)
  | com (b g : List UInt8) (hb : ∀ c ∈ b, c ≠ 10) (hg : GapL g) : GapL (35 :: (b ++ (10 :: g)))
theorem GapL.append {g k : List UInt8} (hg : GapL g) (hk : GapL k) : GapL (g ++ k) := by
  induction hg with
  | nil => exact hk
  | blank c g hc _ ih => exact .blank c _ hc ih
  | com b g hb _ ih => rw [List.cons_append, List.append_assoc, List.cons_append]; exact .com b _ hb ih
theorem lex_gap {s : ByteArray} {g : List UInt8} (hg : GapL g) : ∀ {pre post : List UInt8} {out : List LTok}, s.toList = pre ++ (g ++ post) → lexF s pre.length out = lexF s (pre.length + g.length) out := by
  induction hg with
  | nil => intro _ _ _ _; rfl
  | blank c g hc _ ih =>
    intro pre post out h
    have hs : pre.length < s.size := by rw [← size_toList, h]; simp
    rw [lexF_step hs, byteAt_head (by rw [h]; rfl), if_pos hc]
    have := ih (pre := pre ++ [c]) (post := post) (out := out) (by rw [h]; simp)
    rw [List.length_append, List.length_singleton] at this
    rw [this, List.length_cons]
    congr 1; omega
  | com b g hb _ ih =>
    intro pre post out h
    have hs : pre.length < s.size := by rw [← size_toList, h]; simp
    have hb0 : byteAt s pre.length = 35 := byteAt_head (c := 35) (by rw [h]; rfl)
    have h1 : s.toList = pre ++ ((35 :: b) ++ (10 :: (g ++ post))) := by rw [h]; simp
    have sp : spanB restB s pre.length = pre.length + (35 :: b).length := span_mid h1 (fun c hc => by
      rcases List.mem_cons.1 hc with rfl | hc
      · rfl
      · have := hb c hc
        simp only [restB, u8, bne_iff_ne, ne_eq]
        intro e
        have e' : c.toNat = (10 : UInt8).toNat := by rw [show (10 : UInt8).toNat = 10 from rfl]; omega
        exact this (UInt8.toNat_inj.1 e')) (fun c l' e => by cases e; rfl)
    rw [lexF_step hs, hb0, if_neg (by decide), if_pos rfl, sp]
    have h2 : s.toList = (pre ++ (35 :: b)) ++ (10 :: (g ++ post)) := by rw [h]; simp
    have hs2 : (pre ++ (35 :: b)).length < s.size := by rw [← size_toList, h2]; simp
    have hn : byteAt s (pre ++ (35 :: b)).length = 10 := byteAt_head h2
    rw [List.length_append] at hs2 hn
    rw [lexF_step hs2, hn, if_pos (by decide)]
    have := ih (pre := pre ++ (35 :: b) ++ [10]) (post := post) (out := out) (by rw [h2]; simp)
    simp only [List.length_append, List.length_cons, List.length_nil] at this ⊢
    rw [this]
    congr 1; omega
/-- A piece: what stands ahead of a token, the token. -/
structure It where
  gap : List UInt8
  kind : Int
  text : ByteArray
structure wordT (t : ByteArray) : Prop where
  pos : t.toList ≠ []
  first : letter (byteAt t 0) = true
  all : ∀ c ∈ t.toList, wordB (u8 c) = true
structure numT (t : ByteArray) : Prop where
  pos : t.toList ≠ []
  len : t.toList.length ≤ 10
  lead : t.toList.length > 1 → byteAt t 0 ≠ 48
  all : ∀ c ∈ t.toList, digit (u8 c) = true
structure signT (t : ByteArray) : Prop where
  one : t.toList.length = 1
  ok : signB (byteAt t 0) = true
def tokT (k : Int) (t : ByteArray) : Prop := (k = 1 ∧ wordT t) ∨ (k = 2 ∧ numT t) ∨ (k = 3 ∧ signT t)
def It.bytes (x : It) : List UInt8 := x.gap ++ x.text.toList
def catL (l : List It) : List UInt8 := l.flatMap It.bytes
def itemsOk : List It → List UInt8 → Prop
  | [], _ => True
  | x :: xs, post => GapL x.gap ∧ tokT x.kind x.text ∧ (x.kind = 3 ∨ sepL (catL xs ++ post)) ∧ itemsOk xs post
def toksAt : Nat → List It → List LTok
  | _, [] => []
  | n, x :: xs => ⟨x.kind, n + x.gap.length, x.text⟩ :: toksAt (n + x.bytes.length) xs
theorem toksAt_len : ∀ (n : Nat) (l : List It), (toksAt n l).length = l.length
  | _, [] => rfl
  | n, x :: xs => by rw [toksAt, List.length_cons, List.length_cons, toksAt_len]
theorem wordB_digit {n : Int} (h : wordB n = false) : digit n = false := by
  unfold wordB at h
  rw [Bool.or_eq_false_iff] at h
  exact h.2
theorem letter_not {n : Int} (h : letter n = true) : blankB n = false ∧ n ≠ 35 ∧ digit n = false := by
  simp only [letter, blankB, digit, Bool.or_eq_true, Bool.and_eq_true, decide_eq_true_eq] at h ⊢
  refine ⟨?_, ?_, ?_⟩
  · simp only [Bool.or_eq_false_iff, beq_eq_false_iff_ne, ne_eq]; omega
  · omega
  · simp only [Bool.and_eq_false_iff, decide_eq_false_iff_not]; omega
theorem digit_not {n : Int} (h : digit n = true) : blankB n = false ∧ n ≠ 35 ∧ letter n = false := by
  simp only [letter, blankB, digit, Bool.and_eq_true, decide_eq_true_eq] at h ⊢
  refine ⟨?_, ?_, ?_⟩
  · simp only [Bool.or_eq_false_iff, beq_eq_false_iff_ne, ne_eq]; omega
  · omega
  · simp only [Bool.or_eq_false_iff, Bool.and_eq_false_iff, decide_eq_false_iff_not]; omega
theorem signB_mem {n : Int} (h : signB n = true) : n = 123 ∨ n = 125 ∨ n = 40 ∨ n = 41 ∨ n = 91 ∨ n = 93 ∨ n = 61 ∨ n = 58 ∨ n = 59 ∨ n = 44 := by
  unfold signB at h
  rw [List.any_eq_true] at h
  obtain ⟨i, hi, h⟩ := h
  rw [List.mem_range] at hi
  rw [beq_iff_eq] at h
  have key : ∀ i : Fin 10, byteAt signsB i = ([123, 125, 40, 41, 91, 93, 61, 58, 59, 44] : List Int).getD i 0 := by decide +kernel
  have := key ⟨i, hi⟩
  simp only at this
  rw [this] at h
  have : i = 0 ∨ i = 1 ∨ i = 2 ∨ i = 3 ∨ i = 4 ∨ i = 5 ∨ i = 6 ∨ i = 7 ∨ i = 8 ∨ i = 9 := by omega
  rcases this with rfl | rfl | rfl | rfl | rfl | rfl | rfl | rfl | rfl | rfl <;> simp at h <;> omega
theorem sign_not {n : Int} (h : signB n = true) : blankB n = false ∧ n ≠ 35 ∧ letter n = false ∧ digit n = false ∧ wordB n = false := by
  rcases signB_mem h with rfl | rfl | rfl | rfl | rfl | rfl | rfl | rfl | rfl | rfl <;> decide
theorem head_list {t : ByteArray} {c : UInt8} {l : List UInt8} (h : t.toList = c :: l) : byteAt t 0 = u8 c := by rw [byteAt_list, h]; rfl
theorem lex_tok {s : ByteArray} {x : It} (hx : tokT x.kind x.text) {pre post : List UInt8} {out : List LTok} (h : s.toList = pre ++ (x.text.toList ++ post)) (hp : x.kind = 3 ∨ sepL post) :
    lexF s pre.length out = lexF s (pre.length + x.text.toList.length) (out ++ [⟨x.kind, pre.length, x.text⟩]) := by
  have hne : x.text.toList ≠ [] := by
    rcases hx with ⟨_, h⟩ | ⟨_, h⟩ | ⟨_, h⟩
    · exact h.pos
    · exact h.pos
    · intro e; have := h.one; rw [e] at this; cases this
  obtain ⟨c, l, hc⟩ := List.exists_cons_of_ne_nil hne
  have hs : pre.length < s.size := by rw [← size_toList, h, hc]; simp
  have hb : byteAt s pre.length = byteAt x.text 0 := by rw [head_list hc]; exact byteAt_head (post := l ++ post) (by rw [h, hc]; rfl)
  have hex := extract_mid h
  rw [lexF_step hs, hb]
  rcases hx with ⟨k, w⟩ | ⟨k, w⟩ | ⟨k, w⟩
  · obtain ⟨n1, n2, n3⟩ := letter_not w.first
    have sp := span_mid (p := wordB) h w.all (fun c l e => (hp.resolve_left (by omega)) c l e)
    rw [n1, if_neg (by decide), if_neg n2, if_pos w.first, sp, hex, k]
  · have hd : digit (byteAt x.text 0) = true := by rw [head_list hc]; exact w.all c (by rw [hc]; exact List.mem_cons_self)
    obtain ⟨n1, n2, n3⟩ := digit_not hd
    have sp := span_mid (p := digit) h w.all (fun c l e => wordB_digit ((hp.resolve_left (by omega)) c l e))
    rw [n1, if_neg (by decide), if_neg n2, n3, if_neg (by decide), if_pos hd, sp, hex, k, if_neg]
    have := w.len; have := w.lead
    rintro (h | ⟨h1, h2⟩)
    · omega
    · exact w.lead (by omega) h1
  · obtain ⟨n1, n2, n3, n4, _⟩ := sign_not w.ok
    rw [n1, if_neg (by decide), if_neg n2, n3, if_neg (by decide), n4, if_neg (by decide), if_pos w.ok]
    rw [w.one] at hex ⊢
    rw [hex, k]
theorem lex_items {s : ByteArray} : ∀ {items : List It} {pre post : List UInt8} {out : List LTok}, s.toList = pre ++ (catL items ++ post) → itemsOk items post → lexF s pre.length out = lexF s (pre.length + (catL items).length) (out ++ toksAt pre.length items)
  | [], pre, post, out, h, _ => by simp [catL, toksAt]
  | x :: xs, pre, post, out, h, ⟨hg, ht, hp, hx⟩ => by
    have e : catL (x :: xs) = x.gap ++ (x.text.toList ++ catL xs) := by simp [catL, It.bytes]
    rw [e] at h
    rw [lex_gap hg (post := x.text.toList ++ catL xs ++ post) (by rw [h]; simp)]
    have h2 : s.toList = (pre ++ x.gap) ++ (x.text.toList ++ (catL xs ++ post)) := by rw [h]; simp
    have := lex_tok ht (out := out) h2 hp
    rw [List.length_append] at this
    rw [this]
    have h3 : s.toList = (pre ++ x.gap ++ x.text.toList) ++ (catL xs ++ post) := by rw [h2]; simp
    have := lex_items (out := out ++ [⟨x.kind, pre.length + x.gap.length, x.text⟩]) h3 hx
    simp only [List.length_append] at this
    rw [this, toksAt, e]
    simp only [List.length_append, It.bytes, List.append_assoc, List.singleton_append, Nat.add_assoc]
/-- A text's tokens. -/
theorem lexM_items {s : ByteArray} {items : List It} {tail : List UInt8} (h : s.toList = catL items ++ tail) (ht : GapL tail) (hi : itemsOk items tail) (hs : s.size ≤ 4000) : lexM s = .ok (toksAt 0 items ++ [⟨0, s.size, bs []⟩]) := by
  have h0 := lex_items (s := s) (pre := []) (out := []) (by rw [h]; rfl) hi
  have h1 := lex_gap (s := s) (out := toksAt 0 items) (pre := catL items) (post := []) ht (by rw [h]; simp)
  simp only [List.length_nil, Nat.zero_add, List.nil_append] at h0
  rw [lexM_F s hs, h0, h1, show (catL items).length + tail.length = s.size by rw [← size_toList, h, List.length_append], lexF_end]
end Go.Pv
/- Tokens of a table; what is read of them. No condition. -/
namespace Go.Pv
set_option maxRecDepth 100000

abbrev Tk := Int × ByteArray
def tkAt (l : List LTok) (k : Nat) : Tk := ((tokAt l k).kind, (tokAt l k).text)
/-- These tokens stand there. -/
def Mt (l : List LTok) : Nat → List Tk → Prop
  | _, [] => True
  | k, t :: ts => tkAt l k = t ∧ Mt l (k + 1) ts
theorem Mt.app {l : List LTok} : ∀ {a b : List Tk} {k : Nat}, Mt l k (a ++ b) ↔ Mt l k a ∧ Mt l (k + a.length) b
  | [], b, k => by simp [Mt]
  | t :: a, b, k => by
    simp only [List.cons_append, Mt, Mt.app (a := a), List.length_cons]
    rw [Nat.add_assoc, Nat.add_comm 1]
    exact and_assoc.symm
theorem isM_tk {l : List LTok} {k : Nat} {c : Int} {x : ByteArray} (h : tkAt l k = (c, x)) {w : ByteArray} {b : Bool} (hb : (c != 0 && (c != 2 && seqB x w)) = b) : isM l k w = b := by
  have h1 : (tokAt l k).kind = c := congrArg Prod.fst h
  have h2 : (tokAt l k).text = x := congrArg Prod.snd h
  rw [isM, h1, h2, hb]
theorem mustM_tk {l : List LTok} {k : Nat} {c : Int} {x w : ByteArray} (h : tkAt l k = (c, x)) (hb : (c != 0 && (c != 2 && seqB x w)) = true) : mustM l k w = .ok () (k + 1) := by
  rw [mustM, if_pos (isM_tk h hb)]
theorem nameM_tk {l : List LTok} {k : Nat} {x : ByteArray} (h : tkAt l k = (1, x)) (hx : isName x = true) : nameM l k = .ok x (k + 1) := by
  have h1 : (tokAt l k).kind = 1 := congrArg Prod.fst h
  have h2 : (tokAt l k).text = x := congrArg Prod.snd h
  rw [nameM, h1, h2, if_pos ⟨rfl, hx⟩]
/-- A number, printed. -/
def numTx (n : Nat) : ByteArray := if n < 10 then bs [48 + n] else numTx (n / 10) ++ bs [48 + n % 10]
theorem bs1_toList (n : Nat) : (bs [n]).toList = [UInt8.ofNat n] := by rw [ByteArray.toList_eq]; rfl
theorem numTx_size : ∀ n : Nat, 1 ≤ (numTx n).size ∧ ∀ d, n < 10 ^ (d + 1) → (numTx n).size ≤ d + 1 := by
  intro n
  induction n using Nat.strongRecOn with
  | ind n ih =>
    rw [numTx]
    by_cases h : n < 10
    · rw [if_pos h]
      have e : (bs [48 + n]).size = 1 := rfl
      exact ⟨by omega, fun d _ => by omega⟩
    · rw [if_neg h]
      obtain ⟨h1, h2⟩ := ih (n / 10) (by omega)
      rw [ByteArray.size_append, show (bs [48 + n % 10]).size = 1 from rfl]
      refine ⟨by omega, fun d hd => ?_⟩
      cases d with
      | zero => omega
      | succ d =>
        have : n / 10 < 10 ^ (d + 1) := by rw [Nat.div_lt_iff_lt_mul (by decide), ← Nat.pow_succ]; exact hd
        have := h2 d this
        omega
theorem byteAt_app {a b : ByteArray} {i : Nat} (h : i < a.size) : byteAt (a ++ b) i = byteAt a i := by
  rw [byteAt_list, byteAt_list, toList_append, List.getD_eq_getElem?_getD, List.getElem?_append_left (by rw [size_toList]; exact h), ← List.getD_eq_getElem?_getD]
theorem byteAt_app' {a b : ByteArray} {i : Nat} : byteAt (a ++ b) (a.size + i) = byteAt b i := by
  rw [byteAt_list, byteAt_list, toList_append, List.getD_eq_getElem?_getD, List.getElem?_append_right (by rw [size_toList]; omega), size_toList, Nat.add_sub_cancel_left, ← List.getD_eq_getElem?_getD]
theorem byteAt_digit (n : Nat) (h : n < 10) : byteAt (bs [48 + n]) 0 = 48 + n := by
  rw [byteAt_list, bs1_toList]
  show ((UInt8.ofNat (48 + n)).toNat : Int) = _
  rw [UInt8.toNat_ofNat']
  omega
theorem valGo_app {a b : ByteArray} : ∀ k, k ≤ a.size → valGo (a ++ b) k = valGo a k
  | 0, _ => rfl
  | k + 1, h => by rw [valGo, valGo, valGo_app k (by omega), byteAt_app (by omega)]
theorem valGo_num : ∀ n : Nat, n < 10 ^ 18 → valGo (numTx n) (numTx n).size = n := by
  intro n
  induction n using Nat.strongRecOn with
  | ind n ih =>
    intro hn
    rw [numTx]
    by_cases h : n < 10
    · rw [if_pos h]
      have e : (bs [48 + n]).size = 1 := rfl
      rw [e, valGo, byteAt_digit n h, valGo]
      rw [IntWalk.u8_in (48 + (n : Int) - 48) (by omega), IntWalk.i64_in ((0 : Int) * 10) (by omega), IntWalk.i64_in (48 + (n : Int) - 48) (by omega), IntWalk.i64_in _ (by omega)]
      omega
    · rw [if_neg h]
      have e := ih (n / 10) (by omega) (by omega)
      rw [ByteArray.size_append, show (bs [48 + n % 10]).size = 1 from rfl, valGo, valGo_app _ (Nat.le_refl _), e]
      have hb := byteAt_app' (a := numTx (n / 10)) (b := bs [48 + n % 10]) (i := 0)
      rw [Nat.add_zero] at hb
      rw [hb, byteAt_digit (n % 10) (by omega)]
      rw [IntWalk.u8_in (48 + ((n % 10 : Nat) : Int) - 48) (by omega), IntWalk.i64_in (((n / 10 : Nat) : Int) * 10) (by omega), IntWalk.i64_in (48 + ((n % 10 : Nat) : Int) - 48) (by omega), IntWalk.i64_in _ (by omega)]
      omega
/-- Numbers that are printed as they are read. -/
def numOk (n : Int) : Prop := 0 ≤ n ∧ n < 10 ^ 10
def numX (n : Int) : ByteArray := numTx n.toNat
theorem numM_tk {l : List LTok} {k : Nat} {n : Int} (h : tkAt l k = (2, numX n)) (hn : numOk n) : numM l k = .ok n (k + 1) := by
  have h1 : (tokAt l k).kind = 2 := congrArg Prod.fst h
  have h2 : (tokAt l k).text = numX n := congrArg Prod.snd h
  have hs := (numTx_size n.toNat).2 9 (by have := hn.2; omega)
  rw [numM, if_pos h1, valM, if_pos h1, h2, numX, Nat.min_eq_left (by omega), valGo_num _ (by have := hn.2; omega), Int.toNat_of_nonneg hn.1]
theorem numTx_all : ∀ n : Nat, ∀ c ∈ (numTx n).toList, digit (u8 c) = true := by
  intro n
  induction n using Nat.strongRecOn with
  | ind n ih =>
    have one : ∀ m, m < 10 → ∀ c ∈ (bs [48 + m]).toList, digit (u8 c) = true := by
      intro m hm c hc
      rw [bs1_toList, List.mem_singleton] at hc
      subst hc
      have e : ((UInt8.ofNat (48 + m)).toNat : Int) = 48 + m := by rw [UInt8.toNat_ofNat']; omega
      simp only [u8, e, digit, Bool.and_eq_true, decide_eq_true_eq]; omega
    rw [numTx]
    by_cases h : n < 10
    · rw [if_pos h]; exact one n h
    · rw [if_neg h, toList_append]
      intro c hc
      rcases List.mem_append.1 hc with hc | hc
      · exact ih (n / 10) (by omega) c hc
      · exact one (n % 10) (by omega) c hc
theorem numTx_lead : ∀ n : Nat, 10 ≤ n → byteAt (numTx n) 0 ≠ 48 := by
  intro n
  induction n using Nat.strongRecOn with
  | ind n ih =>
    intro hn
    rw [numTx, if_neg (by omega), byteAt_app (by have := (numTx_size (n / 10)).1; omega)]
    by_cases h : n / 10 < 10
    · rw [numTx, if_pos h, byteAt_digit _ h]; omega
    · exact ih (n / 10) (by omega) (by omega)
theorem numX_tok {n : Int} (hn : numOk n) : tokT 2 (numX n) := by
  obtain ⟨h1, h2⟩ := numTx_size n.toNat
  have h3 := h2 9 (by have := hn.2; omega)
  refine .inr (.inl ⟨rfl, ⟨?_, ?_, ?_, numTx_all _⟩⟩)
  · intro e
    have := congrArg List.length e
    rw [size_toList, List.length_nil] at this
    rw [numX] at this; omega
  · rw [size_toList]; exact h3
  · intro hl
    rw [size_toList] at hl
    refine numTx_lead _ ?_
    rw [numX, numTx] at hl
    by_cases h : n.toNat < 10
    · rw [if_pos h] at hl; exact absurd hl (by show ¬ (1 : Nat) > 1; decide)
    · omega
theorem name_tok {x : ByteArray} (h : isName x = true) : tokT 1 x := by
  unfold isName at h
  simp only [Bool.and_eq_true, decide_eq_true_eq, List.all_eq_true, List.mem_range] at h
  obtain ⟨⟨⟨⟨h1, h2⟩, h3⟩, h4⟩, _⟩ := h
  refine .inl ⟨rfl, ⟨?_, h3, ?_⟩⟩
  · intro e
    have := congrArg List.length e
    rw [size_toList, List.length_nil] at this; omega
  · intro c hc
    obtain ⟨i, hi, rfl⟩ := List.getElem_of_mem hc
    have := h4 i (by rw [size_toList] at hi; exact hi)
    rw [chOk, byteAt_list, List.getD_eq_getElem?_getD, List.getElem?_eq_getElem hi] at this
    exact this
theorem name_kw {x w : ByteArray} (h : isName x = true) (hw : w ∈ words) : seqB x w = false := by
  unfold isName at h
  simp only [Bool.and_eq_true, Bool.not_eq_true'] at h
  have h5 := h.2
  unfold smem at h5
  rw [List.any_eq_false] at h5
  simpa using h5 w hw

abbrev kProgram : ByteArray := bs [112, 114, 111, 103, 114, 97, 109]
abbrev kVersion : ByteArray := bs [118, 101, 114, 115, 105, 111, 110]
abbrev kType : ByteArray := bs [116, 121, 112, 101]
abbrev kError : ByteArray := bs [101, 114, 114, 111, 114]
abbrev kProc : ByteArray := bs [112, 114, 111, 99]
abbrev kReturns : ByteArray := bs [114, 101, 116, 117, 114, 110, 115]
abbrev kCollate : ByteArray := bs [99, 111, 108, 108, 97, 116, 101]
abbrev kTimeout : ByteArray := bs [116, 105, 109, 101, 111, 117, 116]
abbrev kFirst : ByteArray := bs [102, 105, 114, 115, 116]
abbrev kMajority : ByteArray := bs [109, 97, 106, 111, 114, 105, 116, 121]
abbrev kAll : ByteArray := bs [97, 108, 108]
abbrev kText : ByteArray := bs [116, 101, 120, 116]
abbrev kSeq : ByteArray := bs [115, 101, 113]
abbrev kOf : ByteArray := bs [111, 102]
abbrev kRecord : ByteArray := bs [114, 101, 99, 111, 114, 100]
abbrev kEnum : ByteArray := bs [101, 110, 117, 109]
abbrev kChoice : ByteArray := bs [99, 104, 111, 105, 99, 101]
abbrev sOpen : ByteArray := bs [123]
abbrev sClose : ByteArray := bs [125]
abbrev sParL : ByteArray := bs [40]
abbrev sParR : ByteArray := bs [41]
abbrev sBraL : ByteArray := bs [91]
abbrev sBraR : ByteArray := bs [93]
abbrev sEq : ByteArray := bs [61]
abbrev sColon : ByteArray := bs [58]
abbrev sSemi : ByteArray := bs [59]
abbrev sComma : ByteArray := bs [44]
def kw4 (k : Int) : ByteArray := [bs [98, 111, 111, 108], bs [99, 97, 114, 100], bs [108, 111, 110, 103], bs [114, 101, 97, 108]].getD (k % 4).toNat (bs [])
/-- Names, and what stands behind each, parted by commas. -/
def fldToks : List (ByteArray × List Tk) → List Tk
  | [] => []
  | [(s, t)] => (1, s) :: t
  | (s, t) :: x :: rest => (1, s) :: t ++ (3, sComma) :: fldToks (x :: rest)
mutual
def KT.toks : KT → List Tk
  | .mk k m n o =>
    if k = 4 then [(1, kText), (3, sBraL), (2, numX m), (3, sBraR)]
    else if k = 5 then [(1, kSeq), (3, sBraL), (2, numX m), (3, sBraR), (1, kOf)] ++ (KT.toksL o).headD []
    else if k = 6 then (1, kRecord) :: (3, sOpen) :: (fldToks (n.zip ((KT.toksL o).map fun t => (3, sColon) :: t)) ++ [(3, sClose)])
    else if k = 8 then (1, kChoice) :: (3, sOpen) :: (fldToks (n.zip ((KT.toksL o).map fun t => (3, sColon) :: t)) ++ [(3, sClose)])
    else if k = 7 then (1, kEnum) :: (3, sOpen) :: (fldToks (n.map fun s => (s, [])) ++ [(3, sClose)])
    else if k = 9 then [(1, n.getD 0 (bs []))]
    else [(1, kw4 k)]
def KT.toksL : List KT → List (List Tk)
  | [] => []
  | t :: ts => t.toks :: KT.toksL ts
end
theorem KT.toksL_map : ∀ l, KT.toksL l = l.map KT.toks
  | [] => rfl
  | t :: ts => by rw [KT.toksL, List.map_cons, KT.toksL_map]
/-- Types that are printed as they are read; so deep. -/
inductive PT : Nat → KT → Prop where
  | base (d : Nat) (k : Int) (hk : 0 ≤ k ∧ k ≤ 3) : PT (d + 1) (.mk k 0 [] [])
  | text (d : Nat) (m : Int) (hm : numOk m) : PT (d + 1) (.mk 4 m [] [])
  | seq (d : Nat) (m : Int) (o : KT) (hm : numOk m) (ho : PT d o) : PT (d + 1) (.mk 5 m [] [o])
  | reco (d : Nat) (k : Int) (n : List ByteArray) (o : List KT) (hk : k = 6 ∨ k = 8) (hl : n.length = o.length) (hn0 : n ≠ []) (hn : ∀ x ∈ n, isName x = true) (ho : ∀ t ∈ o, PT d t) : PT (d + 1) (.mk k 0 n o)
  | enum (d : Nat) (n : List ByteArray) (hn0 : n ≠ []) (hn : ∀ x ∈ n, isName x = true) : PT (d + 1) (.mk 7 0 n [])
  | ref (d : Nat) (x : ByteArray) (hx : isName x = true) : PT (d + 1) (.mk 9 0 [x] [])
theorem lenM_tk {l : List LTok} {k : Nat} {m : Int} (h : Mt l k [(3, sBraL), (2, numX m), (3, sBraR)]) (hm : numOk m) : lenM l k = .ok m (k + 3) := by
  obtain ⟨h1, h2, h3, _⟩ := h
  rw [lenM, PO.ok_bind (mustM_tk h1 (by decide +kernel)), PO.ok_bind (numM_tk h2 hm), PO.ok_bind (mustM_tk h3 (by decide +kernel))]
theorem fields_tk {K : Nat → PO KT} {kk : Int} {l : List LTok} (hkk : kk ≠ 7) : ∀ (F : List (ByteArray × KT)) (f k : Nat) (ns : List ByteArray) (ts : List KT), F ≠ [] → F.length ≤ f → (∀ x ∈ F, isName x.1 = true) → (∀ x ∈ F, ∀ k, Mt l k x.2.toks → K k = .ok x.2 (k + x.2.toks.length)) →
    Mt l k (fldToks (F.map fun x => (x.1, (3, sColon) :: x.2.toks)) ++ [(3, sClose)]) → fieldsGo K kk l f k ns ts = .ok (.mk kk 0 (ns ++ F.map (·.1)) (ts ++ F.map (·.2))) (k + (fldToks (F.map fun x => (x.1, (3, sColon) :: x.2.toks))).length + 1)
  | [], _, _, _, _, h, _, _, _, _ => absurd rfl h
  | _ :: _, 0, _, _, _, _, h, _, _, _ => by simp at h
  | [(s, t)], f + 1, k, ns, ts, _, hf, hN, hK, hm => by
    simp only [List.map_cons, List.map_nil, fldToks, List.cons_append] at hm ⊢
    obtain ⟨h1, h2, h3⟩ := hm
    obtain ⟨h3, h4, _⟩ := Mt.app.1 h3
    have hc : isM l (k + 1 + 1 + t.toks.length) (bs [44]) = false := isM_tk h4 (by decide +kernel)
    rw [fieldsGo, PO.ok_bind (nameM_tk h1 (hN _ List.mem_cons_self)), if_neg hkk, PO.ok_bind (mustM_tk h2 (by decide +kernel)), PO.ok_bind (hK _ List.mem_cons_self _ h3)]
    show (if isM l (k + 1 + 1 + t.toks.length) (bs [44]) = true then _ else _) = _
    rw [hc, if_neg Bool.false_ne_true, PO.ok_bind (mustM_tk h4 (by decide +kernel))]
    simp only [List.length_cons]
    congr 1; omega
  | (s, t) :: x :: rest, f + 1, k, ns, ts, _, hf, hN, hK, hm => by
    simp only [List.map_cons, fldToks, List.cons_append, List.append_assoc] at hm ⊢
    obtain ⟨h1, h2, h3⟩ := hm
    obtain ⟨h3, h4, h5⟩ := Mt.app.1 h3
    have hc : isM l (k + 1 + 1 + t.toks.length) (bs [44]) = true := isM_tk h4 (by decide +kernel)
    rw [fieldsGo, PO.ok_bind (nameM_tk h1 (hN _ List.mem_cons_self)), if_neg hkk, PO.ok_bind (mustM_tk h2 (by decide +kernel)), PO.ok_bind (hK _ List.mem_cons_self _ h3)]
    show (if isM l (k + 1 + 1 + t.toks.length) (bs [44]) = true then _ else _) = _
    rw [hc, if_pos rfl]
    have ih := fields_tk hkk (x :: rest) f (k + 1 + 1 + t.toks.length + 1) (ns ++ [s]) (ts ++ [t]) (by simp) (by simp at hf ⊢; omega) (fun y hy => hN y (List.mem_cons_of_mem _ hy)) (fun y hy => hK y (List.mem_cons_of_mem _ hy)) h5
    rw [ih]
    simp only [List.map_cons, List.append_assoc, List.singleton_append, List.length_cons, List.length_append]
    congr 1; omega
theorem enum_tk {K : Nat → PO KT} {l : List LTok} : ∀ (F : List ByteArray) (f k : Nat) (ns : List ByteArray), F ≠ [] → F.length ≤ f → (∀ x ∈ F, isName x = true) →
    Mt l k (fldToks (F.map fun x => (x, [])) ++ [(3, sClose)]) → fieldsGo K 7 l f k ns [] = .ok (.mk 7 0 (ns ++ F) []) (k + (fldToks (F.map fun x => (x, []))).length + 1)
  | [], _, _, _, h, _, _, _ => absurd rfl h
  | _ :: _, 0, _, _, _, h, _, _ => by simp at h
  | [s], f + 1, k, ns, _, hf, hN, hm => by
    simp only [List.map_cons, List.map_nil, fldToks, List.cons_append, List.nil_append] at hm ⊢
    obtain ⟨h1, h4, _⟩ := hm
    have hc : isM l (k + 1) (bs [44]) = false := isM_tk h4 (by decide +kernel)
    rw [fieldsGo, PO.ok_bind (nameM_tk h1 (hN _ List.mem_cons_self)), if_pos rfl]
    show (if isM l (k + 1) (bs [44]) = true then _ else _) = _
    rw [hc, if_neg Bool.false_ne_true, PO.ok_bind (mustM_tk h4 (by decide +kernel))]
    rfl
  | s :: x :: rest, f + 1, k, ns, _, hf, hN, hm => by
    simp only [List.map_cons, fldToks, List.cons_append, List.nil_append] at hm ⊢
    obtain ⟨h1, h4, h5⟩ := hm
    have hc : isM l (k + 1) (bs [44]) = true := isM_tk h4 (by decide +kernel)
    rw [fieldsGo, PO.ok_bind (nameM_tk h1 (hN _ List.mem_cons_self)), if_pos rfl]
    show (if isM l (k + 1) (bs [44]) = true then _ else _) = _
    rw [hc, if_pos rfl]
    have ih := enum_tk (K := K) (x :: rest) f (k + 1 + 1) (ns ++ [s]) (by simp) (by simp at hf ⊢; omega) (fun y hy => hN y (List.mem_cons_of_mem _ hy)) h5
    rw [ih]
    simp only [List.append_assoc, List.singleton_append, List.length_cons, List.map_cons]
    congr 1; omega
theorem Mt.le {l : List LTok} : ∀ {ts : List Tk} {k : Nat}, Mt l k ts → (∀ t ∈ ts, t.1 ≠ 0) → k ≤ l.length → k + ts.length ≤ l.length
  | [], _, _, _, h => h
  | t :: ts, k, ⟨h1, h2⟩, h3, h => by
    have hk : k < l.length := by
      apply Classical.byContradiction
      intro hn
      have : tokAt l k = noTok := by rw [tokAt, List.getD_eq_getElem?_getD, List.getElem?_eq_none (by omega)]; rfl
      rw [tkAt, this] at h1
      exact h3 t List.mem_cons_self (by rw [← h1]; rfl)
    have := Mt.le h2 (fun t ht => h3 t (List.mem_cons_of_mem _ ht)) hk
    rw [List.length_cons]; omega
theorem fldToks_len : ∀ F : List (ByteArray × List Tk), F.length ≤ (fldToks F).length
  | [] => Nat.le_refl _
  | [(s, t)] => by simp [fldToks]
  | (s, t) :: x :: rest => by
    have := fldToks_len (x :: rest)
    simp only [fldToks, List.length_append, List.length_cons] at this ⊢; omega
theorem fldToks_ne {F : List (ByteArray × List Tk)} (h : ∀ x ∈ F, ∀ t ∈ x.2, t.1 ≠ 0) : ∀ t ∈ fldToks F, t.1 ≠ 0 := by
  induction F with
  | nil => intro t ht; cases ht
  | cons x rest ih =>
    obtain ⟨s, u⟩ := x
    intro t ht
    cases rest with
    | nil =>
      rcases List.mem_cons.1 ht with rfl | ht
      · show (1 : Int) ≠ 0; decide
      · exact h _ List.mem_cons_self t ht
    | cons y rest =>
      simp only [fldToks, List.cons_append, List.mem_cons, List.mem_append] at ht
      rcases ht with rfl | ht | rfl | ht
      · show (1 : Int) ≠ 0; decide
      · exact h _ List.mem_cons_self t ht
      · show (3 : Int) ≠ 0; decide
      · exact ih (fun z hz => h z (List.mem_cons_of_mem _ hz)) t ht
theorem zip_eq {n : List ByteArray} {o : List KT} : n.zip ((KT.toksL o).map fun t => ((3, sColon) :: t : List Tk)) = (n.zip o).map fun x => (x.1, (3, sColon) :: x.2.toks) := by
  rw [KT.toksL_map, List.map_map]
  induction n generalizing o with
  | nil => rfl
  | cons s n ih => cases o with
    | nil => rfl
    | cons t o => simp only [List.map_cons, List.zip_cons_cons, List.map_cons, Function.comp_apply, ih]
theorem KT.toks_ne {d : Nat} {t : KT} (h : PT d t) : ∀ x ∈ t.toks, x.1 ≠ 0 := by
  have two : ∀ {a b : Tk} {l : List Tk}, a.1 ≠ 0 → b.1 ≠ 0 → (∀ x ∈ l, x.1 ≠ 0) → ∀ x ∈ a :: b :: (l ++ [(3, sClose)]), x.1 ≠ 0 := by
    intro a b l ha hb hl x hx
    rcases List.mem_cons.1 hx with rfl | hx
    · exact ha
    rcases List.mem_cons.1 hx with rfl | hx
    · exact hb
    rcases List.mem_append.1 hx with hx | hx
    · exact hl x hx
    · rw [List.mem_singleton.1 hx]; show (3 : Int) ≠ 0; decide
  have chk : ∀ {l : List Tk}, (l.all fun x => x.1 != 0) = true → ∀ x ∈ l, x.1 ≠ 0 := by
    intro l h x hx
    have := List.all_eq_true.1 h x hx
    simpa using this
  induction h with
  | base d k hk => rw [KT.toks, if_neg (by omega), if_neg (by omega), if_neg (by omega), if_neg (by omega), if_neg (by omega), if_neg (by omega)]; exact chk rfl
  | text d m hm => rw [KT.toks, if_pos rfl]; exact chk rfl
  | seq d m o hm ho ih =>
    rw [KT.toks, if_neg (by decide), if_pos rfl]
    intro x hx
    rcases List.mem_append.1 hx with hx | hx
    · exact chk (l := [(1, kSeq), (3, sBraL), (2, numX m), (3, sBraR), (1, kOf)]) rfl x hx
    · exact ih x hx
  | reco d k n o hk hl hn0 hn ho ih =>
    have key : ∀ x ∈ fldToks (n.zip ((KT.toksL o).map fun t => ((3, sColon) :: t : List Tk))), x.1 ≠ 0 := by
      rw [zip_eq]
      refine fldToks_ne fun x hx t ht => ?_
      obtain ⟨y, hy, rfl⟩ := List.mem_map.1 hx
      rcases List.mem_cons.1 ht with rfl | ht
      · show (3 : Int) ≠ 0; decide
      · exact ih y.2 (List.of_mem_zip hy).2 t ht
    rcases hk with rfl | rfl
    · rw [KT.toks, if_neg (by decide), if_neg (by decide), if_pos rfl]
      exact two (by show (1 : Int) ≠ 0; decide) (by show (3 : Int) ≠ 0; decide) key
    · rw [KT.toks, if_neg (by decide), if_neg (by decide), if_neg (by decide), if_pos rfl]
      exact two (by show (1 : Int) ≠ 0; decide) (by show (3 : Int) ≠ 0; decide) key
  | enum d n hn0 hn =>
    rw [KT.toks, if_neg (by decide), if_neg (by decide), if_neg (by decide), if_neg (by decide), if_pos rfl]
    refine two (by show (1 : Int) ≠ 0; decide) (by show (3 : Int) ≠ 0; decide) (fldToks_ne fun x hx t ht => ?_)
    obtain ⟨y, hy, rfl⟩ := List.mem_map.1 hx
    cases ht
  | ref d x hx => rw [KT.toks, if_neg (by decide), if_neg (by decide), if_neg (by decide), if_neg (by decide), if_neg (by decide), if_pos rfl]; exact chk rfl
theorem PT.toks_nil {d : Nat} {t : KT} (h : PT d t) : t.toks ≠ [] := by
  intro e
  cases h with
  | base d k hk => rw [KT.toks, if_neg (by omega), if_neg (by omega), if_neg (by omega), if_neg (by omega), if_neg (by omega), if_neg (by omega)] at e; cases e
  | text d m hm => rw [KT.toks, if_pos rfl] at e; cases e
  | seq d m o hm ho => rw [KT.toks, if_neg (by decide), if_pos rfl] at e; cases e
  | reco d k n o hk _ _ _ _ => rcases hk with rfl | rfl <;> (simp [KT.toks] at e)
  | enum d n _ _ => simp [KT.toks] at e
  | ref d x _ => simp [KT.toks] at e
/-- A type that is printed is read. -/
theorem kindM_tk {l : List LTok} {d : Nat} {t : KT} (h : PT d t) : ∀ k, k ≤ l.length → Mt l k t.toks → kindM l d k = .ok t (k + t.toks.length) := by
  have kw : ∀ {k : Nat} {x : ByteArray} (w : ByteArray) {b : Bool}, tkAt l k = (1, x) → seqB x w = b → isM l k w = b := by
    intro k x w b h e
    exact isM_tk h (by rw [e]; cases b <;> rfl)
  induction h with
  | base d k hk =>
    intro p _ hm
    have e0 : KT.toks (.mk k 0 [] []) = [(1, kw4 k)] := by rw [KT.toks, if_neg (by omega), if_neg (by omega), if_neg (by omega), if_neg (by omega), if_neg (by omega), if_neg (by omega)]
    rw [e0] at hm ⊢
    have h1 := hm.1
    have : k = 0 ∨ k = 1 ∨ k = 2 ∨ k = 3 := by omega
    unfold kindM
    rcases this with rfl | rfl | rfl | rfl
    · rw [kw _ h1 (show seqB (kw4 0) (bs [98, 111, 111, 108]) = true by decide +kernel), if_pos rfl]; rfl
    · rw [kw _ h1 (show seqB (kw4 1) (bs [98, 111, 111, 108]) = false by decide +kernel), if_neg Bool.false_ne_true, kw _ h1 (show seqB (kw4 1) (bs [99, 97, 114, 100]) = true by decide +kernel), if_pos rfl]; rfl
    · rw [kw _ h1 (show seqB (kw4 2) (bs [98, 111, 111, 108]) = false by decide +kernel), if_neg Bool.false_ne_true, kw _ h1 (show seqB (kw4 2) (bs [99, 97, 114, 100]) = false by decide +kernel), if_neg Bool.false_ne_true, kw _ h1 (show seqB (kw4 2) (bs [108, 111, 110, 103]) = true by decide +kernel), if_pos rfl]; rfl
    · rw [kw _ h1 (show seqB (kw4 3) (bs [98, 111, 111, 108]) = false by decide +kernel), if_neg Bool.false_ne_true, kw _ h1 (show seqB (kw4 3) (bs [99, 97, 114, 100]) = false by decide +kernel), if_neg Bool.false_ne_true, kw _ h1 (show seqB (kw4 3) (bs [108, 111, 110, 103]) = false by decide +kernel), if_neg Bool.false_ne_true, kw _ h1 (show seqB (kw4 3) (bs [114, 101, 97, 108]) = true by decide +kernel), if_pos rfl]; rfl
  | text d m hn =>
    intro p _ hm
    rw [KT.toks, if_pos rfl] at hm ⊢
    obtain ⟨h1, h2⟩ := hm
    unfold kindM
    rw [kw _ h1 (show seqB kText (bs [98, 111, 111, 108]) = false by decide +kernel), if_neg Bool.false_ne_true, kw _ h1 (show seqB kText (bs [99, 97, 114, 100]) = false by decide +kernel), if_neg Bool.false_ne_true, kw _ h1 (show seqB kText (bs [108, 111, 110, 103]) = false by decide +kernel), if_neg Bool.false_ne_true, kw _ h1 (show seqB kText (bs [114, 101, 97, 108]) = false by decide +kernel), if_neg Bool.false_ne_true,
      kw _ h1 (show seqB kText (bs [116, 101, 120, 116]) = true by decide +kernel), if_pos rfl, PO.ok_bind (lenM_tk h2 hn)]
    rfl
  | seq d m o hn ho ih =>
    intro p hp hm
    have ne := KT.toks_ne (PT.seq d m o hn ho)
    have hle := hm.le ne hp
    rw [KT.toks, if_neg (by decide), if_pos rfl] at hm hle ⊢
    simp only [KT.toksL, List.headD_cons] at hm hle ⊢
    obtain ⟨h1, h2, h3, h4, h5, h6⟩ := hm
    unfold kindM
    rw [kw _ h1 (show seqB kSeq (bs [98, 111, 111, 108]) = false by decide +kernel), if_neg Bool.false_ne_true, kw _ h1 (show seqB kSeq (bs [99, 97, 114, 100]) = false by decide +kernel), if_neg Bool.false_ne_true, kw _ h1 (show seqB kSeq (bs [108, 111, 110, 103]) = false by decide +kernel), if_neg Bool.false_ne_true, kw _ h1 (show seqB kSeq (bs [114, 101, 97, 108]) = false by decide +kernel), if_neg Bool.false_ne_true,
      kw _ h1 (show seqB kSeq (bs [116, 101, 120, 116]) = false by decide +kernel), if_neg Bool.false_ne_true, kw _ h1 (show seqB kSeq (bs [115, 101, 113]) = true by decide +kernel), if_pos rfl,
      PO.ok_bind (lenM_tk ⟨h2, h3, h4, trivial⟩ hn), PO.ok_bind (mustM_tk h5 (by decide +kernel)), PO.ok_bind (ih _ (by simp at hle; omega) h6)]
    simp only [List.length_append, List.length_cons, List.length_nil]
    congr 1; omega
  | reco d k n o hk hl hn0 hn ho ih =>
    intro p hp hm
    have ne := KT.toks_ne (PT.reco d k n o hk hl hn0 hn ho)
    have hle := hm.le ne hp
    have key : ∀ {kk : Int} {p : Nat}, kk ≠ 7 → p ≤ l.length → Mt l p ((3, sOpen) :: (fldToks (n.zip ((KT.toksL o).map fun t => ((3, sColon) :: t : List Tk))) ++ [(3, sClose)])) → p + (1 + (fldToks (n.zip ((KT.toksL o).map fun t => ((3, sColon) :: t : List Tk)))).length + 1) ≤ l.length →
        fieldsM (kindM l d) kk l p = .ok (.mk kk 0 n o) (p + (1 + (fldToks (n.zip ((KT.toksL o).map fun t => ((3, sColon) :: t : List Tk)))).length + 1)) := by
      intro kk p hkk hp hm hle
      rw [zip_eq] at hm hle ⊢
      obtain ⟨h1, h2⟩ := hm
      have hz : n.zip o ≠ [] := by
        cases n with
        | nil => exact absurd rfl hn0
        | cons x n => cases o with
          | nil => cases hl
          | cons y o => simp
      have e1 : (n.zip o).map (·.1) = n := List.map_fst_zip (by omega)
      have e2 : (n.zip o).map (·.2) = o := List.map_snd_zip (by omega)
      have hfl := fldToks_len ((n.zip o).map fun x => (x.1, ((3, sColon) :: x.2.toks : List Tk)))
      rw [List.length_map] at hfl
      rw [fieldsM, PO.ok_bind (mustM_tk h1 (by decide +kernel)), fields_tk (K := fun k => kindM l d k) hkk (n.zip o) (l.length - (p + 1)) (p + 1) [] [] hz (by omega) (fun x hx => hn _ (List.of_mem_zip hx).1) (fun x hx k hk => ?_) h2]
      · rw [e1, e2]
        simp only [List.nil_append]
        congr 1; omega
      · have hxo := (List.of_mem_zip hx).2
        by_cases hkl : k ≤ l.length
        · exact ih _ hxo k hkl hk
        · exfalso
          have : (x.2.toks) ≠ [] := PT.toks_nil (ho _ hxo)
          obtain ⟨y, ys, hy⟩ := List.exists_cons_of_ne_nil this
          have hy0 := KT.toks_ne (ho _ hxo) y (by rw [hy]; exact List.mem_cons_self)
          rw [hy] at hk
          have : tokAt l k = noTok := by rw [tokAt, List.getD_eq_getElem?_getD, List.getElem?_eq_none (by omega)]; rfl
          have h1 := hk.1
          rw [tkAt, this] at h1
          exact hy0 (by rw [← h1]; rfl)
    rcases hk with rfl | rfl
    · rw [KT.toks, if_neg (by decide), if_neg (by decide), if_pos rfl] at hm hle ⊢
      obtain ⟨h1, h2⟩ := hm
      simp only [List.length_cons, List.length_append, List.length_nil] at hle ⊢
      unfold kindM
      rw [kw _ h1 (show seqB kRecord (bs [98, 111, 111, 108]) = false by decide +kernel), if_neg Bool.false_ne_true, kw _ h1 (show seqB kRecord (bs [99, 97, 114, 100]) = false by decide +kernel), if_neg Bool.false_ne_true, kw _ h1 (show seqB kRecord (bs [108, 111, 110, 103]) = false by decide +kernel), if_neg Bool.false_ne_true, kw _ h1 (show seqB kRecord (bs [114, 101, 97, 108]) = false by decide +kernel), if_neg Bool.false_ne_true,
        kw _ h1 (show seqB kRecord (bs [116, 101, 120, 116]) = false by decide +kernel), if_neg Bool.false_ne_true, kw _ h1 (show seqB kRecord (bs [115, 101, 113]) = false by decide +kernel), if_neg Bool.false_ne_true, kw _ h1 (show seqB kRecord (bs [114, 101, 99, 111, 114, 100]) = true by decide +kernel), if_pos rfl, key (by decide) (by omega) h2 (by omega)]
      congr 1; omega
    · rw [KT.toks, if_neg (by decide), if_neg (by decide), if_neg (by decide), if_pos rfl] at hm hle ⊢
      obtain ⟨h1, h2⟩ := hm
      simp only [List.length_cons, List.length_append, List.length_nil] at hle ⊢
      unfold kindM
      rw [kw _ h1 (show seqB kChoice (bs [98, 111, 111, 108]) = false by decide +kernel), if_neg Bool.false_ne_true, kw _ h1 (show seqB kChoice (bs [99, 97, 114, 100]) = false by decide +kernel), if_neg Bool.false_ne_true, kw _ h1 (show seqB kChoice (bs [108, 111, 110, 103]) = false by decide +kernel), if_neg Bool.false_ne_true, kw _ h1 (show seqB kChoice (bs [114, 101, 97, 108]) = false by decide +kernel), if_neg Bool.false_ne_true,
        kw _ h1 (show seqB kChoice (bs [116, 101, 120, 116]) = false by decide +kernel), if_neg Bool.false_ne_true, kw _ h1 (show seqB kChoice (bs [115, 101, 113]) = false by decide +kernel), if_neg Bool.false_ne_true, kw _ h1 (show seqB kChoice (bs [114, 101, 99, 111, 114, 100]) = false by decide +kernel), if_neg Bool.false_ne_true,
        kw _ h1 (show seqB kChoice (bs [101, 110, 117, 109]) = false by decide +kernel), if_neg Bool.false_ne_true, kw _ h1 (show seqB kChoice (bs [99, 104, 111, 105, 99, 101]) = true by decide +kernel), if_pos rfl, key (by decide) (by omega) h2 (by omega)]
      congr 1; omega
  | enum d n hn0 hn =>
    intro p hp hm
    have ne := KT.toks_ne (PT.enum d n hn0 hn)
    have hle := hm.le ne hp
    rw [KT.toks, if_neg (by decide), if_neg (by decide), if_neg (by decide), if_neg (by decide), if_pos rfl] at hm hle ⊢
    obtain ⟨h1, h2, h3⟩ := hm
    have hfl := fldToks_len (n.map fun x => (x, ([] : List Tk)))
    rw [List.length_map] at hfl
    simp only [List.length_cons, List.length_append, List.length_nil] at hle ⊢
    unfold kindM
    rw [kw _ h1 (show seqB kEnum (bs [98, 111, 111, 108]) = false by decide +kernel), if_neg Bool.false_ne_true, kw _ h1 (show seqB kEnum (bs [99, 97, 114, 100]) = false by decide +kernel), if_neg Bool.false_ne_true, kw _ h1 (show seqB kEnum (bs [108, 111, 110, 103]) = false by decide +kernel), if_neg Bool.false_ne_true, kw _ h1 (show seqB kEnum (bs [114, 101, 97, 108]) = false by decide +kernel), if_neg Bool.false_ne_true,
      kw _ h1 (show seqB kEnum (bs [116, 101, 120, 116]) = false by decide +kernel), if_neg Bool.false_ne_true, kw _ h1 (show seqB kEnum (bs [115, 101, 113]) = false by decide +kernel), if_neg Bool.false_ne_true, kw _ h1 (show seqB kEnum (bs [114, 101, 99, 111, 114, 100]) = false by decide +kernel), if_neg Bool.false_ne_true,
      kw _ h1 (show seqB kEnum (bs [101, 110, 117, 109]) = true by decide +kernel), if_pos rfl, fieldsM, PO.ok_bind (mustM_tk h2 (by decide +kernel)), enum_tk n _ _ [] hn0 (by omega) hn h3]
    simp only [List.nil_append]
    congr 1; omega
  | ref d x hx =>
    intro p _ hm
    rw [KT.toks, if_neg (by decide), if_neg (by decide), if_neg (by decide), if_neg (by decide), if_neg (by decide), if_pos rfl] at hm ⊢
    have h1 : tkAt l p = (1, x) := hm.1
    have nk : ∀ w, w ∈ words → isM l p w = false := fun w hw => kw w h1 (name_kw hx hw)
    unfold kindM
    rw [nk (bs [98, 111, 111, 108]) (by simp [words]), if_neg Bool.false_ne_true, nk (bs [99, 97, 114, 100]) (by simp [words]), if_neg Bool.false_ne_true, nk (bs [108, 111, 110, 103]) (by simp [words]), if_neg Bool.false_ne_true, nk (bs [114, 101, 97, 108]) (by simp [words]), if_neg Bool.false_ne_true,
      nk (bs [116, 101, 120, 116]) (by simp [words]), if_neg Bool.false_ne_true, nk (bs [115, 101, 113]) (by simp [words]), if_neg Bool.false_ne_true, nk (bs [114, 101, 99, 111, 114, 100]) (by simp [words]), if_neg Bool.false_ne_true,
      nk (bs [101, 110, 117, 109]) (by simp [words]), if_neg Bool.false_ne_true, nk (bs [99, 104, 111, 105, 99, 101]) (by simp [words]), if_neg Bool.false_ne_true, PO.ok_bind (nameM_tk h1 hx)]
    rfl
end Go.Pv
/- A table's tokens are read as the table. No condition. -/
namespace Go.Pv
set_option maxRecDepth 100000

def alTk (a : Al) : List Tk := (1, kType) :: (1, a.name) :: (3, sEq) :: (a.ty.toks ++ [(3, sSemi)])
def flTk (f : Fl) : List Tk := [(1, kError), (1, f.name), (3, sEq), (2, numX f.number), (3, sSemi)]
def colX (c : Int) : ByteArray := [kFirst, kMajority, kAll].getD (c % 3).toNat (bs [])
def pcTk (p : Pc) : List Tk := (1, kProc) :: (1, p.name) :: (3, sEq) :: (2, numX p.number) :: (3, sParL) :: (p.takes.toks ++ ((3, sParR) :: (1, kReturns) :: (p.answers.toks ++ [(1, kCollate), (1, colX p.collate), (1, kTimeout), (2, numX p.timeout), (3, sSemi)])))
def TB.toks (t : TB) : List Tk := (1, kProgram) :: (1, t.name) :: (2, numX t.number) :: (1, kVersion) :: (2, numX t.version) :: (3, sOpen) :: (t.types.flatMap alTk ++ (t.faults.flatMap flTk ++ (t.procs.flatMap pcTk ++ [(3, sClose)])))
/-- Tables that are printed as they are read. -/
structure PTB (t : TB) : Prop where
  name : isName t.name = true
  number : numOk t.number
  version : numOk t.version
  types : ∀ a ∈ t.types, isName a.name = true ∧ PT 5 a.ty
  faults : ∀ f ∈ t.faults, isName f.name = true ∧ numOk f.number
  procs : ∀ p ∈ t.procs, isName p.name = true ∧ numOk p.number ∧ PT 5 p.takes ∧ PT 5 p.answers ∧ (0 ≤ p.collate ∧ p.collate ≤ 2) ∧ numOk p.timeout
theorem Mt.lt {l : List LTok} {k : Nat} {t : Tk} {ts : List Tk} (h : Mt l k (t :: ts)) (h0 : t.1 ≠ 0) : k < l.length := by
  apply Classical.byContradiction
  intro hn
  have : tokAt l k = noTok := by rw [tokAt, List.getD_eq_getElem?_getD, List.getElem?_eq_none (by omega)]; rfl
  have h1 := h.1
  rw [tkAt, this] at h1
  exact h0 (by rw [← h1]; rfl)
theorem one_ne {x : ByteArray} : ((1, x) : Tk).1 ≠ 0 := by show (1 : Int) ≠ 0; decide
theorem three_ne {x : ByteArray} : ((3, x) : Tk).1 ≠ 0 := by show (3 : Int) ≠ 0; decide
theorem two_ne {x : ByteArray} : ((2, x) : Tk).1 ≠ 0 := by show (2 : Int) ≠ 0; decide
theorem types_tk {l : List LTok} {rest : List Tk} {w : ByteArray} {c : Int} (hw : (c != 0 && (c != 2 && seqB w kType)) = false) : ∀ (as acc : List Al) (f k : Nat), as.length < f → (∀ a ∈ as, isName a.name = true ∧ PT 5 a.ty) → Mt l k (as.flatMap alTk ++ ((c, w) :: rest)) → typesGo l f k acc = .ok (acc ++ as) (k + (as.flatMap alTk).length)
  | [], acc, f + 1, k, _, _, hm => by
    have h0 : isM l k (bs [116, 121, 112, 101]) = false := isM_tk hm.1 hw
    rw [typesGo, if_neg (by rw [h0]; exact Bool.false_ne_true)]
    simp
  | _, _, 0, _, h, _, _ => by omega
  | a :: as, acc, f + 1, k, hf, hA, hm => by
    obtain ⟨hn, ht⟩ := hA a List.mem_cons_self
    rw [List.flatMap_cons, List.append_assoc] at hm
    obtain ⟨⟨h1, h2, h3, h4⟩, h6⟩ := Mt.app.1 hm
    obtain ⟨h4, h5, _⟩ := Mt.app.1 h4
    have hk : k + 1 + 1 < l.length := Mt.lt (t := (3, sEq)) (ts := []) ⟨h3, trivial⟩ three_ne
    rw [typesGo, if_pos (isM_tk h1 (by decide +kernel)), PO.ok_bind (nameM_tk h2 hn), PO.ok_bind (mustM_tk h3 (by decide +kernel)), PO.ok_bind (kindM_tk ht _ (by omega) h4), PO.ok_bind (mustM_tk h5 (by decide +kernel))]
    have e : (alTk a).length = 3 + (a.ty.toks.length + 1) := by simp only [alTk, List.length_cons, List.length_append, List.length_nil]; omega
    have ih := types_tk hw as (acc ++ [a]) f (k + (alTk a).length) (by simp at hf; omega) (fun x hx => hA x (List.mem_cons_of_mem _ hx)) h6
    rw [show k + 1 + 1 + 1 + a.ty.toks.length + 1 = k + (alTk a).length by omega, show (⟨a.name, a.ty⟩ : Al) = a from rfl, ih, List.flatMap_cons, List.length_append]
    simp only [List.append_assoc, List.singleton_append]
    congr 1; omega
theorem faults_tk {l : List LTok} {rest : List Tk} {w : ByteArray} {c : Int} (hw : (c != 0 && (c != 2 && seqB w kError)) = false) : ∀ (as acc : List Fl) (f k : Nat), as.length < f → (∀ a ∈ as, isName a.name = true ∧ numOk a.number) → Mt l k (as.flatMap flTk ++ ((c, w) :: rest)) → faultsGo l f k acc = .ok (acc ++ as) (k + (as.flatMap flTk).length)
  | [], acc, f + 1, k, _, _, hm => by
    have h0 : isM l k (bs [101, 114, 114, 111, 114]) = false := isM_tk hm.1 hw
    rw [faultsGo, if_neg (by rw [h0]; exact Bool.false_ne_true)]
    simp
  | _, _, 0, _, h, _, _ => by omega
  | a :: as, acc, f + 1, k, hf, hA, hm => by
    obtain ⟨hn, ht⟩ := hA a List.mem_cons_self
    rw [List.flatMap_cons, List.append_assoc] at hm
    obtain ⟨⟨h1, h2, h3, h4, h5, _⟩, h6⟩ := Mt.app.1 hm
    rw [faultsGo, if_pos (isM_tk h1 (by decide +kernel)), PO.ok_bind (nameM_tk h2 hn), PO.ok_bind (mustM_tk h3 (by decide +kernel)), PO.ok_bind (numM_tk h4 ht), PO.ok_bind (mustM_tk h5 (by decide +kernel))]
    have ih := faults_tk hw as (acc ++ [a]) f (k + (flTk a).length) (by simp at hf; omega) (fun x hx => hA x (List.mem_cons_of_mem _ hx)) h6
    rw [show k + 1 + 1 + 1 + 1 + 1 = k + (flTk a).length from rfl, show (⟨a.name, a.number⟩ : Fl) = a from rfl, ih, List.flatMap_cons, List.length_append]
    simp only [List.append_assoc, List.singleton_append]
    congr 1; omega
theorem col_tk {l : List LTok} {k : Nat} {c : Int} (hc : 0 ≤ c ∧ c ≤ 2) (h : tkAt l k = (1, colX c)) : colM l k = .ok c (k + 1) := by
  have : c = 0 ∨ c = 1 ∨ c = 2 := by omega
  unfold colM
  rcases this with rfl | rfl | rfl
  · rw [if_pos (isM_tk h (by decide +kernel))]
  · rw [if_neg (by rw [isM_tk h (b := false) (by decide +kernel)]; exact Bool.false_ne_true), if_pos (isM_tk h (by decide +kernel))]
  · rw [if_neg (by rw [isM_tk h (b := false) (by decide +kernel)]; exact Bool.false_ne_true), if_neg (by rw [isM_tk h (b := false) (by decide +kernel)]; exact Bool.false_ne_true), PO.ok_bind (mustM_tk h (by decide +kernel))]
theorem proc_tk {l : List LTok} {k : Nat} {p : Pc} (hp : isName p.name = true ∧ numOk p.number ∧ PT 5 p.takes ∧ PT 5 p.answers ∧ (0 ≤ p.collate ∧ p.collate ≤ 2) ∧ numOk p.timeout) (h : Mt l k (pcTk p)) : procM l (k + 1) = .ok p (k + (pcTk p).length) := by
  obtain ⟨hn, h0, ht, ha, hc, ho⟩ := hp
  obtain ⟨_, h2, h3, h4, h5, h6⟩ := h
  have hk : k + 1 + 1 + 1 + 1 < l.length := Mt.lt (t := (3, sParL)) (ts := []) ⟨h5, trivial⟩ three_ne
  obtain ⟨h6, h7, h8, h9⟩ := Mt.app.1 h6
  have hk2 := Mt.lt (t := (1, kReturns)) (ts := []) ⟨h8, trivial⟩ one_ne
  obtain ⟨h9, h10, h11, h12, h13, h14, _⟩ := Mt.app.1 h9
  rw [procM, PO.ok_bind (nameM_tk h2 hn), PO.ok_bind (mustM_tk h3 (by decide +kernel)), PO.ok_bind (numM_tk h4 h0), PO.ok_bind (mustM_tk h5 (by decide +kernel)), PO.ok_bind (kindM_tk ht _ (by omega) h6), PO.ok_bind (mustM_tk h7 (by decide +kernel)), PO.ok_bind (mustM_tk h8 (by decide +kernel)),
    PO.ok_bind (kindM_tk ha _ (by omega) h9), PO.ok_bind (mustM_tk h10 (by decide +kernel)), PO.ok_bind (col_tk hc h11), procEnd, PO.ok_bind (mustM_tk h12 (by decide +kernel)), PO.ok_bind (numM_tk h13 ho), PO.ok_bind (mustM_tk h14 (by decide +kernel))]
  simp only [pcTk, List.length_cons, List.length_append, List.length_nil]
  congr 1; omega
theorem pcTk_ne (p : Pc) : 1 ≤ (pcTk p).length := by simp [pcTk]
theorem procs_tk {l : List LTok} {rest : List Tk} {w : ByteArray} {c : Int} (hw : (c != 0 && (c != 2 && seqB w kProc)) = false) : ∀ (as acc : List Pc) (f k : Nat), as.length < f → (∀ p ∈ as, isName p.name = true ∧ numOk p.number ∧ PT 5 p.takes ∧ PT 5 p.answers ∧ (0 ≤ p.collate ∧ p.collate ≤ 2) ∧ numOk p.timeout) → Mt l k (as.flatMap pcTk ++ ((c, w) :: rest)) → procsGo l f k acc = .ok (acc ++ as) (k + (as.flatMap pcTk).length)
  | [], acc, f + 1, k, _, _, hm => by
    have h0 : isM l k (bs [112, 114, 111, 99]) = false := isM_tk hm.1 hw
    rw [procsGo, if_neg (by rw [h0]; exact Bool.false_ne_true)]
    simp
  | _, _, 0, _, h, _, _ => by omega
  | a :: as, acc, f + 1, k, hf, hA, hm => by
    rw [List.flatMap_cons, List.append_assoc] at hm
    obtain ⟨h1, h6⟩ := Mt.app.1 hm
    have hb : isM l k (bs [112, 114, 111, 99]) = true := isM_tk h1.1 (by decide +kernel)
    rw [procsGo, if_pos hb, PO.ok_bind (proc_tk (hA a List.mem_cons_self) h1)]
    have ih := procs_tk hw as (acc ++ [a]) f (k + (pcTk a).length) (by simp at hf; omega) (fun x hx => hA x (List.mem_cons_of_mem _ hx)) h6
    rw [ih, List.flatMap_cons, List.length_append]
    simp only [List.append_assoc, List.singleton_append]
    congr 1; omega
theorem flatTk_len {α : Type} (f : α → List Tk) (h : ∀ a, 1 ≤ (f a).length) : ∀ l : List α, l.length ≤ (l.flatMap f).length
  | [] => Nat.le_refl _
  | a :: l => by
    have := flatTk_len f h l; have := h a
    rw [List.flatMap_cons, List.length_append, List.length_cons]; omega
theorem tableM_tk {t : TB} (ht : PTB t) {l : List LTok} (hl : t.toks.length < l.length) (h : Mt l 0 (t.toks ++ [(0, bs [])])) : tableM l 0 = .ok t t.toks.length := by
  have e0 : t.toks.length = 6 + ((t.types.flatMap alTk).length + ((t.faults.flatMap flTk).length + ((t.procs.flatMap pcTk).length + 1))) := by
    simp only [TB.toks, List.length_cons, List.length_append, List.length_nil]; omega
  rw [TB.toks] at h
  simp only [List.cons_append, List.append_assoc] at h
  obtain ⟨h1, h2, h3, h4, h5, h6, h7⟩ := h
  have n1 := flatTk_len alTk (fun a => by simp [alTk]) t.types
  have n2 := flatTk_len flTk (fun a => by simp [flTk]) t.faults
  have n3 := flatTk_len pcTk pcTk_ne t.procs
  rw [tableM, PO.ok_bind (mustM_tk h1 (by decide +kernel)), PO.ok_bind (nameM_tk h2 ht.name), PO.ok_bind (numM_tk h3 ht.number), PO.ok_bind (mustM_tk h4 (by decide +kernel)), PO.ok_bind (numM_tk h5 ht.version), PO.ok_bind (mustM_tk h6 (by decide +kernel))]
  have hd : ∀ (X : List Tk), ∃ c w rest, t.faults.flatMap flTk ++ (t.procs.flatMap pcTk ++ ((3, sClose) :: X)) = (c, w) :: rest ∧ (c != 0 && (c != 2 && seqB w kType)) = false := by
    intro X
    cases hf : t.faults with
    | cons a as => exact ⟨_, _, _, rfl, by decide +kernel⟩
    | nil => cases hp : t.procs with
      | cons a as => exact ⟨_, _, _, rfl, by decide +kernel⟩
      | nil => exact ⟨_, _, _, rfl, by decide +kernel⟩
  have hd2 : ∀ (X : List Tk), ∃ c w rest, t.procs.flatMap pcTk ++ ((3, sClose) :: X) = (c, w) :: rest ∧ (c != 0 && (c != 2 && seqB w kError)) = false := by
    intro X
    cases hp : t.procs with
    | cons a as => exact ⟨_, _, _, rfl, by decide +kernel⟩
    | nil => exact ⟨_, _, _, rfl, by decide +kernel⟩
  have hA : Mt l 6 (t.types.flatMap alTk ++ (t.faults.flatMap flTk ++ (t.procs.flatMap pcTk ++ ((3, sClose) :: [(0, bs [])])))) := h7
  have hB := (Mt.app.1 hA).2
  have hC := (Mt.app.1 hB).2
  obtain ⟨c, w, rest, er, hw⟩ := hd [(0, bs [])]
  rw [er] at hA
  rw [PO.ok_bind (types_tk hw t.types [] _ 6 (by omega) ht.types hA)]
  obtain ⟨c, w, rest, er, hw⟩ := hd2 [(0, bs [])]
  rw [er] at hB
  rw [PO.ok_bind (faults_tk hw t.faults [] _ _ (by omega) ht.faults hB)]
  have hD := (Mt.app.1 hC).2
  rw [PO.ok_bind (procs_tk (w := sClose) (c := 3) (by decide +kernel) t.procs [] _ _ (by omega) ht.procs hC)]
  obtain ⟨h8, h9, _⟩ := hD
  have hk9 : (tokAt l (6 + (t.types.flatMap alTk).length + (t.faults.flatMap flTk).length + (t.procs.flatMap pcTk).length + 1)).kind = 0 := congrArg Prod.fst h9
  rw [endM, PO.ok_bind (mustM_tk h8 (by decide +kernel))]
  rw [if_pos hk9, PO.ok_bind rfl]
  simp only [List.nil_append]
  rw [e0]
  congr 1; omega
/-- The tokens of pieces. -/
def tks (l : List It) : List Tk := l.map fun x => (x.kind, x.text)
theorem Mt.of {l : List LTok} : ∀ {ts : List Tk} {k : Nat}, (∀ j, j < ts.length → ∃ x, l[k + j]? = some x ∧ ts[j]? = some (x.kind, x.text)) → Mt l k ts
  | [], _, _ => trivial
  | t :: ts, k, h => by
    obtain ⟨x, hx, e⟩ := h 0 (by simp)
    rw [Nat.add_zero] at hx
    have e : t = (x.kind, x.text) := by simpa using e
    refine ⟨?_, Mt.of fun j hj => ?_⟩
    · rw [tkAt, tokAt, List.getD_eq_getElem?_getD, hx, e]; rfl
    · obtain ⟨y, hy, e⟩ := h (j + 1) (by simpa using hj)
      exact ⟨y, by rw [← hy]; congr 1; omega, by simpa using e⟩
theorem toksAt_get : ∀ {items : List It} {n j : Nat}, j < items.length → ∃ x, (toksAt n items)[j]? = some x ∧ (tks items)[j]? = some (x.kind, x.text)
  | [], _, _, h => by cases h
  | y :: ys, n, 0, _ => ⟨_, rfl, rfl⟩
  | y :: ys, n, j + 1, h => by
    obtain ⟨x, h1, h2⟩ := toksAt_get (items := ys) (n := n + y.bytes.length) (j := j) (by simpa using h)
    exact ⟨x, by rw [toksAt, List.getElem?_cons_succ]; exact h1, by rw [tks, List.map_cons, List.getElem?_cons_succ]; exact h2⟩
theorem Mt_items (items : List It) (n p : Nat) : Mt (toksAt n items ++ [⟨0, p, bs []⟩]) 0 (tks items ++ [(0, bs [])]) := by
  refine Mt.of fun j hj => ?_
  rw [Nat.zero_add]
  have hl : (tks items).length = items.length := List.length_map _
  rw [List.length_append, List.length_singleton, hl] at hj
  by_cases h : j < items.length
  · obtain ⟨x, h1, h2⟩ := toksAt_get (n := n) h
    exact ⟨x, by rw [List.getElem?_append_left (by rw [toksAt_len]; exact h)]; exact h1, by rw [List.getElem?_append_left (by omega)]; exact h2⟩
  · obtain rfl : j = items.length := by omega
    exact ⟨⟨0, p, bs []⟩, by rw [List.getElem?_append_right (by rw [toksAt_len]; omega), toksAt_len, Nat.sub_self]; rfl, by rw [List.getElem?_append_right (by omega), hl, Nat.sub_self]; rfl⟩
/-- A text of a table's tokens, whatever stands between them. -/
theorem parse_items {s : ByteArray} {items : List It} {tail : List UInt8} {t : TB} (h : s.toList = catL items ++ tail) (ht : GapL tail) (hi : itemsOk items tail) (hs : s.size ≤ 4000) (hp : PTB t) (he : tks items = t.toks) :
    parseM s = if t.check ≠ 0 then (TB.zero, (s.size : Int), t.check) else (t, 0, 0) := by
  have hlex := lexM_items h ht hi hs
  have hm := Mt_items items 0 s.size
  rw [he] at hm
  have hl : t.toks.length < (toksAt 0 items ++ [(⟨0, s.size, bs []⟩ : LTok)]).length := by
    rw [List.length_append, toksAt_len, List.length_singleton, ← he, tks, List.length_map]; omega
  unfold parseM
  rw [hlex]
  simp only [tableM_tk hp hl hm]
end Go.Pv
/- Types in one another, as texts, and what is read of them. No condition. -/
namespace Go.Pv
set_option maxRecDepth 100000

def tokB (k : Int) (t : ByteArray) : Bool :=
  if k = 1 then !t.toList.isEmpty && letter (byteAt t 0) && t.toList.all fun c => wordB (u8 c)
  else if k = 2 then !t.toList.isEmpty && decide (t.toList.length ≤ 10) && (decide (t.toList.length ≤ 1) || byteAt t 0 != 48) && t.toList.all fun c => digit (u8 c)
  else if k = 3 then decide (t.toList.length = 1) && signB (byteAt t 0) else false
theorem tokB_ok {k : Int} {t : ByteArray} (h : tokB k t = true) : tokT k t := by
  unfold tokB at h
  split at h
  · rename_i hk
    simp only [Bool.and_eq_true, List.all_eq_true, Bool.not_eq_true'] at h
    exact .inl ⟨hk, ⟨fun e => by rw [e] at h; exact absurd h.1.1 (by simp), h.1.2, h.2⟩⟩
  split at h
  · rename_i hk
    simp only [Bool.and_eq_true, Bool.or_eq_true, List.all_eq_true, Bool.not_eq_true', decide_eq_true_eq, bne_iff_ne, ne_eq] at h
    exact .inr (.inl ⟨hk, ⟨fun e => by rw [e] at h; exact absurd h.1.1.1 (by simp), h.1.1.2, fun hl => h.1.2.resolve_left (by omega), h.2⟩⟩)
  split at h
  · rename_i hk
    simp only [Bool.and_eq_true, decide_eq_true_eq] at h
    exact .inr (.inr ⟨hk, ⟨h.1, h.2⟩⟩)
  · cases h
def gapB (g : List UInt8) : Bool := g.all fun c => blankB (u8 c)
theorem gapB_ok : ∀ {g : List UInt8}, gapB g = true → GapL g
  | [], _ => .nil
  | c :: g, h => by
    simp only [gapB, List.all_cons, Bool.and_eq_true] at h
    exact .blank c g h.1 (gapB_ok h.2)
/-- As pieces should be, the next byte parting ('hd'). -/
def okB : List It → Bool → Bool
  | [], _ => true
  | x :: xs, hd => gapB x.gap && tokB x.kind x.text && (x.kind == 3 || (match catL xs with | c :: _ => !wordB (u8 c) | [] => hd)) && okB xs hd
theorem okB_ok : ∀ {items : List It} {hd : Bool} {post : List UInt8}, okB items hd = true → (hd = true → sepL post) → itemsOk items post
  | [], _, _, _, _ => trivial
  | x :: xs, hd, post, h, hp => by
    simp only [okB, Bool.and_eq_true] at h
    obtain ⟨⟨⟨h1, h2⟩, h3⟩, h4⟩ := h
    refine ⟨gapB_ok h1, tokB_ok h2, ?_, okB_ok h4 hp⟩
    rcases Bool.or_eq_true _ _ ▸ h3 with h3 | h3
    · left; simpa using h3
    · right
      cases hc : catL xs with
      | nil => rw [hc] at h3; exact hp h3
      | cons c l =>
        rw [hc] at h3
        intro d l' e
        cases e
        simpa using h3
theorem itemsOk_app : ∀ {a b : List It} {post : List UInt8}, itemsOk a (catL b ++ post) → itemsOk b post → itemsOk (a ++ b) post
  | [], _, _, _, hb => hb
  | x :: a, b, post, ⟨h1, h2, h3, h4⟩, hb => by
    refine ⟨h1, h2, ?_, itemsOk_app h4 hb⟩
    have e : catL (a ++ b) = catL a ++ catL b := List.flatMap_append
    show x.kind = 3 ∨ sepL (catL (a ++ b) ++ post)
    rw [e, List.append_assoc]
    exact h3
theorem catL_app (a b : List It) : catL (a ++ b) = catL a ++ catL b := List.flatMap_append
theorem sep_blank {c : UInt8} {l : List UInt8} (h : wordB (u8 c) = false) : sepL (c :: l) := fun _ _ e => by cases e; exact h

abbrev two : ByteArray := bs [50]
abbrev aN : ByteArray := bs [97]
abbrev xT : ByteArray := bs [120]
abbrev kBool : ByteArray := bs [98, 111, 111, 108]
def sp : List UInt8 := [32]
/-- What opens a type: 0: seq, 1: record, else choice. -/
def itD (c : Nat) : List It := if c = 0 then [⟨sp, 1, kSeq⟩, ⟨[], 3, sBraL⟩, ⟨[], 2, two⟩, ⟨[], 3, sBraR⟩, ⟨sp, 1, kOf⟩]
  else if c = 1 then [⟨sp, 1, kRecord⟩, ⟨sp, 3, sOpen⟩, ⟨sp, 1, aN⟩, ⟨[], 3, sColon⟩] else [⟨sp, 1, kChoice⟩, ⟨sp, 3, sOpen⟩, ⟨sp, 1, aN⟩, ⟨[], 3, sColon⟩]
def pieceD (c : Nat) : ByteArray := if c = 0 then bs [115, 101, 113, 91, 50, 93, 32, 111, 102, 32] else if c = 1 then bs [114, 101, 99, 111, 114, 100, 32, 123, 32, 97, 58, 32] else bs [99, 104, 111, 105, 99, 101, 32, 123, 32, 97, 58, 32]
def closeT : It := ⟨sp, 3, sClose⟩
def closers : List Nat → List It
  | [] => []
  | c :: ks => closers ks ++ (if c = 0 then [] else [closeT])
theorem pieceD_eq (c : Nat) : sp ++ (pieceD c).toList = catL (itD c) ++ sp := by
  unfold pieceD itD
  split
  · decide +kernel
  split <;> decide +kernel
def deepT : List Nat → KT
  | [] => .mk 0 0 [] []
  | c :: ks => if c = 0 then .mk 5 2 [] [deepT ks] else if c = 1 then .mk 6 0 [aN] [deepT ks] else .mk 8 0 [aN] [deepT ks]
theorem numX_two : numX 2 = two := by unfold numX; rw [numTx, if_pos (by decide)]; rfl
theorem deepT_toks : ∀ ks : List Nat, (deepT ks).toks = (tks (ks.flatMap itD) ++ ((1, kBool) :: tks (closers ks)) : List Tk)
  | [] => by simp [deepT, KT.toks, tks, closers, kw4]
  | c :: ks => by
    have ih := deepT_toks ks
    unfold deepT closers
    split
    · rename_i h; subst h
      rw [KT.toks, if_neg (by decide), if_pos rfl]
      simp only [KT.toksL, List.headD_cons, ih, numX_two, List.flatMap_cons, itD, if_true, tks, List.map_append, List.map_cons, List.map_nil, List.append_nil, List.append_assoc, List.cons_append, List.nil_append]
    split
    · rename_i h1 h; subst h
      rw [KT.toks, if_neg (by decide), if_neg (by decide), if_pos rfl]
      simp only [KT.toksL, ih, List.map_cons, List.map_nil, List.zip_cons_cons, List.zip_nil_right, fldToks, List.flatMap_cons, itD, if_neg h1, if_true, tks, List.map_append, List.append_assoc, List.cons_append, List.nil_append, closeT]
    · rename_i h1 h2
      rw [KT.toks, if_neg (by decide), if_neg (by decide), if_neg (by decide), if_pos rfl]
      simp only [KT.toksL, ih, List.map_cons, List.map_nil, List.zip_cons_cons, List.zip_nil_right, fldToks, List.flatMap_cons, itD, if_neg h1, if_neg h2, tks, List.map_append, List.append_assoc, List.cons_append, List.nil_append, closeT]
theorem aN_name : isName aN = true := by decide +kernel
theorem deepT_pt : ∀ (ks : List Nat) (d : Nat), ks.length < d → PT d (deepT ks)
  | [], d + 1, _ => .base d 0 (by decide)
  | c :: ks, d + 1, h => by
    have ih := deepT_pt ks d (by simpa using h)
    unfold deepT
    split
    · exact .seq d 2 _ ⟨by decide, by decide⟩ ih
    split
    · exact .reco d 6 _ _ (.inl rfl) rfl (by simp) (fun x hx => by rw [List.mem_singleton.1 hx]; exact aN_name) (fun t ht => by rw [List.mem_singleton.1 ht]; exact ih)
    · exact .reco d 8 _ _ (.inr rfl) rfl (by simp) (fun x hx => by rw [List.mem_singleton.1 hx]; exact aN_name) (fun t ht => by rw [List.mem_singleton.1 ht]; exact ih)
theorem namesM_a : namesM [aN] = 0 := by decide +kernel
theorem deepT_check : ∀ (ks : List Nat) (d : Int), (ks.length : Int) < d → ∀ known, (deepT ks).check d known = 0
  | [], d, h, known => by
    have : ¬ d < 1 := by simp at h; omega
    simp [deepT, KT.check, formE, nameE, manyOf, KT.checks, this]
  | c :: ks, d, h, known => by
    rw [List.length_cons] at h
    have ih := deepT_check ks (d - 1) (by omega) known
    have : ¬ d < 1 := by omega
    unfold deepT
    split
    · simp [KT.check, formE, nameE, manyOf, KT.checks, this, ih]
    split
    · simp [KT.check, formE, nameE, manyOf, KT.checks, this, ih, namesM_a]
    · simp [KT.check, formE, nameE, manyOf, KT.checks, this, ih, namesM_a]
def headI : List It := [⟨[], 1, kProgram⟩, ⟨sp, 1, aN⟩, ⟨sp, 2, bs [49]⟩, ⟨sp, 1, kVersion⟩, ⟨sp, 2, two⟩, ⟨sp, 3, sOpen⟩, ⟨sp, 1, kType⟩, ⟨sp, 1, xT⟩, ⟨sp, 3, sEq⟩]
def tailI : List It := [⟨[], 3, sSemi⟩, ⟨sp, 3, sClose⟩]
def deepI (ks : List Nat) : List It := headI ++ (ks.flatMap itD ++ (⟨sp, 1, kBool⟩ :: (closers ks ++ tailI)))
def deepTB (ks : List Nat) : TB := ⟨aN, 1, 2, [⟨xT, deepT ks⟩], [], []⟩
theorem numX_one : numX 1 = bs [49] := by unfold numX; rw [numTx, if_pos (by decide)]; rfl
theorem deepI_toks (ks : List Nat) : tks (deepI ks) = (deepTB ks).toks := by
  simp only [deepI, deepTB, TB.toks, List.flatMap_cons, List.flatMap_nil, alTk, deepT_toks, numX_one, numX_two, tks, List.map_append, List.map_cons, List.map_nil, headI, tailI, List.append_assoc, List.cons_append, List.nil_append, List.append_nil]
theorem deepTB_pt {ks : List Nat} (h : ks.length ≤ 4) : PTB (deepTB ks) := by
  refine ⟨aN_name, ⟨by show (0 : Int) ≤ 1; decide, by show (1 : Int) < _; decide⟩, ⟨by show (0 : Int) ≤ 2; decide, by show (2 : Int) < _; decide⟩, ?_, (fun _ h => by cases h), (fun _ h => by cases h)⟩
  intro a ha
  rw [List.mem_singleton.1 ha]
  exact ⟨(by show isName xT = true; decide +kernel), deepT_pt ks 5 (by omega)⟩
theorem freshX : freshE xT [] = 0 := by decide +kernel
theorem deepTB_check {ks : List Nat} (h : ks.length ≤ 4) : (deepTB ks).check = 0 := by
  have h1 : (deepT ks).check 5 [] = 0 := deepT_check ks 5 (by omega) []
  have h2 : isName aN = true := aN_name
  simp [TB.check, deepTB, typesE, faultsE, procsE, freshX, h1, h2, inNum]
theorem sp_sep {l : List UInt8} : sepL (sp ++ l) := sep_blank (by decide)
theorem closers_sep : ∀ (ks : List Nat) (post : List UInt8), sepL post → sepL (catL (closers ks) ++ post)
  | [], post, h => h
  | c :: ks, post, h => by
    rw [closers, catL_app, List.append_assoc]
    refine closers_sep ks _ ?_
    split
    · exact h
    · exact sp_sep
theorem closers_ok : ∀ (ks : List Nat) (post : List UInt8), itemsOk (closers ks) post
  | [], _ => trivial
  | c :: ks, post => by
    rw [closers]
    refine itemsOk_app (closers_ok ks _) ?_
    split
    · trivial
    · exact okB_ok (hd := false) (by decide +kernel) (fun h => by cases h)
theorem opens_ok : ∀ (ks : List Nat) (post : List UInt8), sepL post → itemsOk (ks.flatMap itD) post ∧ sepL (catL (ks.flatMap itD) ++ post)
  | [], post, h => ⟨trivial, h⟩
  | c :: ks, post, h => by
    obtain ⟨h1, h2⟩ := opens_ok ks post h
    have hk : okB (itD c) true = true := by
      unfold itD
      split
      · decide +kernel
      split <;> decide +kernel
    rw [List.flatMap_cons]
    refine ⟨itemsOk_app (okB_ok hk fun _ => h2) h1, ?_⟩
    rw [catL_app, List.append_assoc]
    unfold itD
    split
    · exact sep_blank (by decide)
    split
    · exact sep_blank (by decide)
    · exact sep_blank (by decide)
theorem deepI_ok (ks : List Nat) : itemsOk (deepI ks) [] := by
  have ht : itemsOk (⟨sp, 1, kBool⟩ :: (closers ks ++ tailI)) [] := by
    refine ⟨gapB_ok (by decide), tokB_ok (by decide +kernel), .inr ?_, itemsOk_app (closers_ok ks _) (okB_ok (hd := false) (by decide +kernel) (fun h => by cases h))⟩
    rw [catL_app, List.append_assoc]
    exact closers_sep ks _ (by rw [show catL tailI = [59, 32, 125] by decide +kernel]; exact sep_blank (by decide))
  obtain ⟨h1, h2⟩ := opens_ok ks (catL (⟨sp, 1, kBool⟩ :: (closers ks ++ tailI)) ++ []) (sep_blank (by decide))
  refine itemsOk_app (okB_ok (hd := true) (by decide +kernel) fun _ => ?_) (itemsOk_app h1 ht)
  rw [catL_app, List.append_assoc]
  exact h2
/-- It is deeper than it may be. -/
theorem deep_err {l : List LTok} : ∀ (d : Nat) (ks : List Nat) (k : Nat) (X : List Tk) (w : Tk), d ≤ ks.length → w.1 ≠ 0 → Mt l k (tks (ks.flatMap itD) ++ (w :: X)) → ∃ k', k ≤ k' ∧ k' < l.length ∧ kindM l d k = .err (tokAt l k').pos 5
  | 0, ks, k, X, w, _, hw, hm => by
    refine ⟨k, Nat.le_refl _, ?_, rfl⟩
    cases ks with
    | nil => exact Mt.lt hm hw
    | cons c ks =>
      rw [List.flatMap_cons, tks, List.map_append, List.append_assoc] at hm
      have := (Mt.app.1 hm).1
      unfold itD at this
      split at this
      · exact Mt.lt this one_ne
      split at this
      · exact Mt.lt this one_ne
      · exact Mt.lt this one_ne
  | d + 1, [], _, _, _, h, _, _ => by simp at h
  | d + 1, c :: ks, k, X, w, h, hw, hm => by
    rw [List.flatMap_cons, tks, List.map_append, List.append_assoc] at hm
    obtain ⟨h1, h2⟩ := Mt.app.1 hm
    obtain ⟨k', hk1, hk2, e⟩ := deep_err d ks (k + ((itD c).map fun x => (x.kind, x.text)).length) X w (by simpa using h) hw h2
    refine ⟨k', by omega, hk2, ?_⟩
    have kw : ∀ {k : Nat} {x : ByteArray} (w : ByteArray) {b : Bool}, tkAt l k = (1, x) → seqB x w = b → isM l k w = b := by
      intro k x w b h e
      exact isM_tk h (by rw [e]; cases b <;> rfl)
    unfold itD at h1 e
    split at h1
    · rename_i hc
      obtain ⟨a1, a2, a3, a4, a5, _⟩ := h1
      rw [if_pos hc] at e
      unfold kindM
      rw [kw _ a1 (show seqB kSeq (bs [98, 111, 111, 108]) = false by decide +kernel), if_neg Bool.false_ne_true, kw _ a1 (show seqB kSeq (bs [99, 97, 114, 100]) = false by decide +kernel), if_neg Bool.false_ne_true, kw _ a1 (show seqB kSeq (bs [108, 111, 110, 103]) = false by decide +kernel), if_neg Bool.false_ne_true, kw _ a1 (show seqB kSeq (bs [114, 101, 97, 108]) = false by decide +kernel), if_neg Bool.false_ne_true,
        kw _ a1 (show seqB kSeq (bs [116, 101, 120, 116]) = false by decide +kernel), if_neg Bool.false_ne_true, kw _ a1 (show seqB kSeq (bs [115, 101, 113]) = true by decide +kernel), if_pos rfl,
        PO.ok_bind (lenM_tk ⟨a2, (by rw [numX_two]; exact a3), a4, trivial⟩ ⟨by decide, by decide⟩), PO.ok_bind (mustM_tk a5 (by decide +kernel))]
      exact PO.err_bind e _
    rename_i hc
    rw [if_neg hc] at e
    have key : ∀ {kk : Int} {p : Nat}, kk ≠ 7 → p < l.length → tkAt l p = (3, sOpen) → tkAt l (p + 1) = (1, aN) → tkAt l (p + 1 + 1) = (3, sColon) → kindM l d (p + 1 + 1 + 1) = .err (tokAt l k').pos 5 → fieldsM (kindM l d) kk l p = .err (tokAt l k').pos 5 := by
      intro kk p hkk hp h1 h2 h3 h4
      have hp2 : p + 1 < l.length := Mt.lt (t := (1, aN)) (ts := []) ⟨h2, trivial⟩ one_ne
      obtain ⟨f, hf⟩ := Nat.exists_eq_succ_of_ne_zero (show l.length - (p + 1) ≠ 0 by omega)
      rw [fieldsM, PO.ok_bind (mustM_tk h1 (by decide +kernel)), hf, fieldsGo, PO.ok_bind (nameM_tk h2 aN_name), if_neg hkk, PO.ok_bind (mustM_tk h3 (by decide +kernel)), PO.err_bind h4]
      rfl
    split at h1
    · rename_i hc1
      rw [if_pos hc1] at e
      obtain ⟨a1, a2, a3, a4, _⟩ := h1
      unfold kindM
      rw [kw _ a1 (show seqB kRecord (bs [98, 111, 111, 108]) = false by decide +kernel), if_neg Bool.false_ne_true, kw _ a1 (show seqB kRecord (bs [99, 97, 114, 100]) = false by decide +kernel), if_neg Bool.false_ne_true, kw _ a1 (show seqB kRecord (bs [108, 111, 110, 103]) = false by decide +kernel), if_neg Bool.false_ne_true, kw _ a1 (show seqB kRecord (bs [114, 101, 97, 108]) = false by decide +kernel), if_neg Bool.false_ne_true,
        kw _ a1 (show seqB kRecord (bs [116, 101, 120, 116]) = false by decide +kernel), if_neg Bool.false_ne_true, kw _ a1 (show seqB kRecord (bs [115, 101, 113]) = false by decide +kernel), if_neg Bool.false_ne_true, kw _ a1 (show seqB kRecord (bs [114, 101, 99, 111, 114, 100]) = true by decide +kernel), if_pos rfl]
      exact key (by decide) (Mt.lt (t := (3, sOpen)) (ts := []) ⟨a2, trivial⟩ three_ne) a2 a3 a4 e
    · rename_i hc1
      rw [if_neg hc1] at e
      obtain ⟨a1, a2, a3, a4, _⟩ := h1
      unfold kindM
      rw [kw _ a1 (show seqB kChoice (bs [98, 111, 111, 108]) = false by decide +kernel), if_neg Bool.false_ne_true, kw _ a1 (show seqB kChoice (bs [99, 97, 114, 100]) = false by decide +kernel), if_neg Bool.false_ne_true, kw _ a1 (show seqB kChoice (bs [108, 111, 110, 103]) = false by decide +kernel), if_neg Bool.false_ne_true, kw _ a1 (show seqB kChoice (bs [114, 101, 97, 108]) = false by decide +kernel), if_neg Bool.false_ne_true,
        kw _ a1 (show seqB kChoice (bs [116, 101, 120, 116]) = false by decide +kernel), if_neg Bool.false_ne_true, kw _ a1 (show seqB kChoice (bs [115, 101, 113]) = false by decide +kernel), if_neg Bool.false_ne_true, kw _ a1 (show seqB kChoice (bs [114, 101, 99, 111, 114, 100]) = false by decide +kernel), if_neg Bool.false_ne_true,
        kw _ a1 (show seqB kChoice (bs [101, 110, 117, 109]) = false by decide +kernel), if_neg Bool.false_ne_true, kw _ a1 (show seqB kChoice (bs [99, 104, 111, 105, 99, 101]) = true by decide +kernel), if_pos rfl]
      exact key (by decide) (Mt.lt (t := (3, sOpen)) (ts := []) ⟨a2, trivial⟩ three_ne) a2 a3 a4 e
theorem toksAt_pos : ∀ {items : List It} {n j : Nat} {x : LTok}, (toksAt n items)[j]? = some x → n ≤ x.pos
  | [], _, _, _, h => by simp [toksAt] at h
  | y :: ys, n, 0, x, h => by
    simp only [toksAt, List.getElem?_cons_zero, Option.some.injEq] at h
    subst h; exact Nat.le_add_right _ _
  | y :: ys, n, j + 1, x, h => by
    rw [toksAt, List.getElem?_cons_succ] at h
    have := toksAt_pos h; omega
/-- The text. -/
def deepTx (ahead behind : ByteArray) : ByteArray := bs [112, 114, 111, 103, 114, 97, 109, 32, 97, 32, 49, 32, 118, 101, 114, 115, 105, 111, 110, 32, 50, 32, 123, 32, 116, 121, 112, 101, 32, 120, 32, 61, 32] ++ ahead ++ kBool ++ behind ++ bs [59, 32, 125]
def aheadM : List Nat → ByteArray → ByteArray
  | [], a => a
  | c :: ks, a => aheadM ks (a ++ pieceD c)
def behindM : List Nat → ByteArray → ByteArray
  | [], b => b
  | c :: ks, b => behindM ks (if c = 0 then b else bs [32, 125] ++ b)
theorem aheadM_eq : ∀ (ks : List Nat) (a : ByteArray) (J : List It), sp ++ a.toList = catL J ++ sp → sp ++ (aheadM ks a).toList = catL (J ++ ks.flatMap itD) ++ sp
  | [], a, J, h => by simpa [aheadM] using h
  | c :: ks, a, J, h => by
    rw [aheadM, List.flatMap_cons, ← List.append_assoc]
    refine aheadM_eq ks _ _ ?_
    rw [toList_append, ← List.append_assoc, h, List.append_assoc, pieceD_eq, catL_app, List.append_assoc]
theorem behindM_eq : ∀ (ks : List Nat) (b : ByteArray), (behindM ks b).toList = catL (closers ks) ++ b.toList
  | [], b => rfl
  | c :: ks, b => by
    rw [behindM, behindM_eq ks, closers, catL_app]
    split
    · simp [catL]
    · rw [toList_append, List.append_assoc, show (bs [32, 125]).toList = catL [closeT] by decide +kernel]
theorem deepTx_eq (ks : List Nat) : (deepTx (aheadM ks (bs [])) (behindM ks (bs []))).toList = catL (deepI ks) ++ [] := by
  have h1 := aheadM_eq ks (bs []) [] (by decide +kernel)
  have h2 := behindM_eq ks (bs [])
  rw [List.nil_append] at h1
  have hh : (bs [112, 114, 111, 103, 114, 97, 109, 32, 97, 32, 49, 32, 118, 101, 114, 115, 105, 111, 110, 32, 50, 32, 123, 32, 116, 121, 112, 101, 32, 120, 32, 61, 32]).toList = catL headI ++ sp := by decide +kernel
  have ht : (bs [59, 32, 125]).toList = catL tailI := by decide +kernel
  have e0 : (bs []).toList = [] := by rw [ByteArray.toList_eq]; rfl
  simp only [deepTx, toList_append, hh, ht, h2, e0, List.append_assoc, deepI, catL_app, List.append_nil]
  rw [show ∀ X : List UInt8, sp ++ ((aheadM ks (bs [])).toList ++ X) = (sp ++ (aheadM ks (bs [])).toList) ++ X from fun X => (List.append_assoc _ _ _).symm, h1]
  rw [show catL (⟨sp, 1, kBool⟩ :: (closers ks ++ tailI)) = sp ++ (kBool.toList ++ (catL (closers ks) ++ catL tailI)) by
    show catL ([⟨sp, 1, kBool⟩] ++ (closers ks ++ tailI)) = _
    rw [catL_app, catL_app]; simp [catL, It.bytes]]
  simp only [List.append_assoc]
/-- What is read of types in one another. -/
theorem deep_read (ks : List Nat) (hs : (deepTx (aheadM ks (bs [])) (behindM ks (bs []))).size ≤ 4000) :
    (ks.length ≤ 4 → parseM (deepTx (aheadM ks (bs [])) (behindM ks (bs []))) = (deepTB ks, 0, 0)) ∧ (4 < ks.length → ∃ p : Nat, 0 < p ∧ parseM (deepTx (aheadM ks (bs [])) (behindM ks (bs []))) = (TB.zero, (p : Int), 5)) := by
  have he := deepTx_eq ks
  refine ⟨fun h => ?_, fun h => ?_⟩
  · rw [parse_items he .nil (deepI_ok ks) hs (deepTB_pt h) (deepI_toks ks), if_neg (by rw [deepTB_check h]; simp)]
  · have hlex := lexM_items he .nil (deepI_ok ks) hs
    have hm := Mt_items (deepI ks) 0 (deepTx (aheadM ks (bs [])) (behindM ks (bs []))).size
    have hl : ∀ j x, 1 ≤ j → (toksAt 0 (deepI ks) ++ [(⟨0, (deepTx (aheadM ks (bs [])) (behindM ks (bs []))).size, bs []⟩ : LTok)])[j]? = some x → 0 < x.pos := by
      intro j x hj hx
      by_cases hlt : j < (toksAt 0 (deepI ks)).length
      · rw [List.getElem?_append_left hlt] at hx
        obtain ⟨j, rfl⟩ := Nat.exists_eq_succ_of_ne_zero (show j ≠ 0 by omega)
        have e : deepI ks = ⟨[], 1, kProgram⟩ :: (deepI ks).tail := rfl
        rw [e, toksAt, List.getElem?_cons_succ] at hx
        have := toksAt_pos hx
        exact Nat.lt_of_lt_of_le (by decide +kernel) this
      · rw [List.getElem?_append_right (by omega)] at hx
        obtain ⟨hj0, hx⟩ := List.getElem?_eq_some_iff.1 hx
        rw [List.length_singleton] at hj0
        simp only [show j - (toksAt 0 (deepI ks)).length = 0 by omega, List.getElem_cons_zero] at hx
        subst hx
        show 0 < (deepTx _ _).size
        rw [deepTx, ByteArray.size_append]
        exact Nat.lt_of_lt_of_le (by decide : 0 < (bs [59, 32, 125]).size) (Nat.le_add_left _ _)
    generalize (deepTx (aheadM ks (bs [])) (behindM ks (bs []))).size = S at *
    generalize hL : toksAt 0 (deepI ks) ++ [(⟨0, S, bs []⟩ : LTok)] = L at *
    have hmd : Mt L 0 (tks headI ++ (tks (ks.flatMap itD) ++ ((1, kBool) :: (tks (closers ks ++ tailI) ++ [(0, bs [])])))) := by
      have := hm
      simp only [deepI, tks, List.map_append, List.map_cons, List.append_assoc, List.cons_append] at this ⊢
      exact this
    obtain ⟨h0, h9⟩ := Mt.app.1 hmd
    obtain ⟨a1, a2, a3, a4, a5, a6, a7, a8, a9, _⟩ := h0
    rw [show 0 + (tks headI).length = 9 from rfl] at h9
    obtain ⟨k', hk1, hk2, e⟩ := deep_err 5 ks _ _ (1, kBool) (by omega) one_ne h9
    have hg : L[k']? = some (tokAt L k') := by rw [tokAt, List.getD_eq_getElem?_getD, List.getElem?_eq_getElem hk2]; rfl
    refine ⟨(tokAt L k').pos, hl k' _ (by omega) hg, ?_⟩
    have hk : 6 < L.length := Mt.lt (t := (1, kType)) (ts := []) ⟨a7, trivial⟩ one_ne
    obtain ⟨f, hf⟩ := Nat.exists_eq_succ_of_ne_zero (show L.length - 6 ≠ 0 by omega)
    have ht : tableM L 0 = .err (tokAt L k').pos 5 := by
      rw [tableM, PO.ok_bind (mustM_tk a1 (by decide +kernel)), PO.ok_bind (nameM_tk a2 aN_name), PO.ok_bind (numM_tk (n := 1) (by rw [numX_one]; exact a3) ⟨by decide, by decide⟩), PO.ok_bind (mustM_tk a4 (by decide +kernel)), PO.ok_bind (numM_tk (n := 2) (by rw [numX_two]; exact a5) ⟨by decide, by decide⟩), PO.ok_bind (mustM_tk a6 (by decide +kernel)),
        show L.length - (0 + 1 + 1 + 1 + 1 + 1 + 1) = f + 1 from hf, typesGo, if_pos (isM_tk a7 (by decide +kernel)), PO.ok_bind (nameM_tk a8 (by decide +kernel)), PO.ok_bind (mustM_tk a9 (by decide +kernel)), PO.err_bind (PO.err_bind e _)]
    unfold parseM
    rw [hlex]
    simp only [ht]
end Go.Pv
/- Tables of small numbers are printed as they are read; tokens with something between them, as a text. No condition. -/
namespace Go.Pv
set_option maxRecDepth 100000

theorem PT.up {d : Nat} {t : KT} (h : PT d t) : ∀ {e : Nat}, d ≤ e → PT e t := by
  induction h with
  | base d k hk => intro e he; obtain ⟨e, rfl⟩ := Nat.exists_eq_succ_of_ne_zero (show e ≠ 0 by omega); exact .base e k hk
  | text d m hm => intro e he; obtain ⟨e, rfl⟩ := Nat.exists_eq_succ_of_ne_zero (show e ≠ 0 by omega); exact .text e m hm
  | seq d m o hm ho ih => intro e he; obtain ⟨e, rfl⟩ := Nat.exists_eq_succ_of_ne_zero (show e ≠ 0 by omega); exact .seq e m o hm (ih (by omega))
  | reco d k n o hk hl hn0 hn ho ih => intro e he; obtain ⟨e, rfl⟩ := Nat.exists_eq_succ_of_ne_zero (show e ≠ 0 by omega); exact .reco e k n o hk hl hn0 hn (fun t ht => ih t ht (by omega))
  | enum d n hn0 hn => intro e he; obtain ⟨e, rfl⟩ := Nat.exists_eq_succ_of_ne_zero (show e ≠ 0 by omega); exact .enum e n hn0 hn
  | ref d x hx => intro e he; obtain ⟨e, rfl⟩ := Nat.exists_eq_succ_of_ne_zero (show e ≠ 0 by omega); exact .ref e x hx
theorem nameOf_name (n : Int) (h0 : 0 ≤ n) : ∀ i, i < 3 → isName (nameOf i n) = true := by
  have key : ∀ i : Fin 3, ∀ m : Fin 26, isName (nameOf i (m : Nat)) = true := by decide +kernel
  intro i hi
  have e : nameOf i n = nameOf i ((n % 26).toNat : Int) := by
    unfold nameOf
    rw [Int.toNat_of_nonneg (by omega), Int.emod_emod_of_dvd _ (Int.dvd_refl _)]
  rw [e]
  exact key ⟨i, hi⟩ ⟨(n % 26).toNat, by omega⟩
theorem typ_pt {d : Nat} {t : Nd} {known : List ByteArray} (hd : 1 ≤ d) (ht : t.fit) (hk : ∀ x ∈ known, isName x = true) : PT d (Nd.typ d t known) := by
  have one : ∀ {d : Nat}, 1 ≤ d → ∃ e, d = e + 1 := fun h => ⟨_, (Nat.succ_pred_eq_of_pos h).symm⟩
  refine typ_ind (P := fun d x => PT d x) known ?_ ?_ ?_ ?_ ?_ ?_ d t hd ht
  · intro d k h h1 h2; obtain ⟨e, rfl⟩ := one h; exact .base e k ⟨h1, h2⟩
  · intro d m h h1 h2; obtain ⟨e, rfl⟩ := one h; exact .text e m ⟨by omega, by omega⟩
  · intro d m o h h1 h2 ho; exact .seq d m o ⟨by omega, by omega⟩ ho
  · intro d k n many sub h hk h0 hn h1 h2 ho
    refine .reco d k _ _ hk (by simp) (by intro e; have := congrArg List.length e; simp at this; omega) (fun x hx => ?_) (fun t ht => ?_)
    · obtain ⟨i, hi, rfl⟩ := List.mem_map.1 hx
      exact nameOf_name n h0 i (by rw [List.mem_range] at hi; omega)
    · obtain ⟨i, hi, rfl⟩ := List.mem_map.1 ht
      exact ho i (by simpa using hi)
  · intro d n many h h0 hn h1 h2; obtain ⟨e, rfl⟩ := one h
    refine .enum e _ (by intro e; have := congrArg List.length e; simp at this; omega) (fun x hx => ?_)
    obtain ⟨i, hi, rfl⟩ := List.mem_map.1 hx
    exact nameOf_name n h0 i (by rw [List.mem_range] at hi; omega)
  · intro d i hi h; obtain ⟨e, rfl⟩ := one h; exact .ref e _ (hk _ (List.getElem_mem hi))
/-- So many tokens at most. -/
theorem typ_len {d : Nat} {t : Nd} {known : List ByteArray} (hd : 1 ≤ d) (ht : t.fit) : (Nd.typ d t known).toks.length ≤ 12 * 4 ^ d := by
  have pos : ∀ {d : Nat}, 1 ≤ d → 48 ≤ 12 * 4 ^ d := fun {d} h => by
    have := Nat.pow_le_pow_right (n := 4) (by decide) h; omega
  refine typ_ind (P := fun d x => x.toks.length ≤ 12 * 4 ^ d) known ?_ ?_ ?_ ?_ ?_ ?_ d t hd ht
  · intro d k h h1 h2
    have := pos h
    rw [KT.toks, if_neg (by omega), if_neg (by omega), if_neg (by omega), if_neg (by omega), if_neg (by omega), if_neg (by omega)]
    simp only [List.length_cons, List.length_nil]; omega
  · intro d m h h1 h2
    have := pos h
    rw [KT.toks, if_pos rfl]
    simp only [List.length_cons, List.length_nil]; omega
  · intro d m o h h1 h2 ho
    have := pos h
    rw [KT.toks, if_neg (by decide), if_pos rfl]
    simp only [KT.toksL, List.headD_cons, List.length_cons, List.length_append, List.length_nil]
    rw [Nat.pow_succ]; omega
  · intro d k n many sub h hk h0 hn h1 h2 ho
    have := pos h
    have hz : ∀ (F : List (ByteArray × List Tk)) (B : Nat), (∀ x ∈ F, x.2.length ≤ B) → (fldToks F).length ≤ F.length * (B + 2) := by
      intro F B
      induction F with
      | nil => intro _; exact Nat.zero_le _
      | cons x F ih =>
        intro hB
        obtain ⟨s, u⟩ := x
        have hu := hB _ List.mem_cons_self
        simp only at hu
        cases F with
        | nil => simp only [fldToks, List.length_cons, List.length_nil]; omega
        | cons y F =>
          have := ih fun x hx => hB x (List.mem_cons_of_mem _ hx)
          simp only [fldToks, List.length_append, List.length_cons] at this ⊢
          rw [Nat.add_mul (F.length + 1) 1]; omega
    have hF : (fldToks (((List.range many).map fun i => nameOf i n).zip ((KT.toksL ((List.range many).map sub)).map fun t => ((3, sColon) :: t : List Tk)))).length ≤ 3 * (12 * 4 ^ d + 1 + 2) := by
      refine Nat.le_trans (hz _ (12 * 4 ^ d + 1) fun x hx => ?_) ?_
      · have h2 := (List.of_mem_zip hx).2
        rw [KT.toksL_map, List.map_map, List.map_map, List.mem_map] at h2
        obtain ⟨i, hi, e⟩ := h2
        have := ho i (by simpa using hi)
        rw [← e]
        simp only [Function.comp_apply, List.length_cons]; omega
      · refine Nat.mul_le_mul_right _ ?_
        simp; omega
    rw [Nat.pow_succ]
    rcases hk with rfl | rfl
    · rw [KT.toks, if_neg (by decide), if_neg (by decide), if_pos rfl]
      simp only [List.length_cons, List.length_append, List.length_nil]; omega
    · rw [KT.toks, if_neg (by decide), if_neg (by decide), if_neg (by decide), if_pos rfl]
      simp only [List.length_cons, List.length_append, List.length_nil]; omega
  · intro d n many h h0 hn h1 h2
    have := pos h
    have hz : ∀ l : List ByteArray, (fldToks (l.map fun s => (s, ([] : List Tk)))).length ≤ 2 * l.length := by
      intro l
      induction l with
      | nil => exact Nat.zero_le _
      | cons x l ih => cases l with
        | nil => simp [fldToks]
        | cons y l => simp only [List.map_cons, fldToks, List.length_append, List.length_cons, List.length_nil] at ih ⊢; omega
    rw [KT.toks, if_neg (by decide), if_neg (by decide), if_neg (by decide), if_neg (by decide), if_pos rfl]
    have := hz ((List.range many).map fun i => nameOf i n)
    simp only [List.length_map, List.length_range, List.length_cons, List.length_append, List.length_nil] at this ⊢; omega
  · intro d i hi h
    have := pos h
    rw [KT.toks, if_neg (by decide), if_neg (by decide), if_neg (by decide), if_neg (by decide), if_neg (by decide), if_pos rfl]
    simp only [List.length_cons, List.length_nil]; omega
theorem known_names : ∀ (n : Nat), n ≤ 4 → ∀ x ∈ known n, isName x = true := by
  have key : ∀ i : Fin 4, isName (tname i) = true := by decide +kernel
  intro n hn x hx
  obtain ⟨i, hi, rfl⟩ := List.mem_map.1 hx
  rw [List.mem_range] at hi
  exact key ⟨i, by omega⟩
theorem sm_as (s : Sm) : s.as ≤ 4 := by unfold Sm.as; omega
theorem sm_ps (s : Sm) : s.ps ≤ 4 := by unfold Sm.ps; omega
theorem sm_fs {s : Sm} (hf : s.fit) : s.fs ≤ 3 := by have := hf.faults; unfold Sm.fs; omega
theorem sm_pr {s : Sm} (hf : s.fit) (i : Nat) : (s.procs.getD i ⟨Nd.zero, Nd.zero, 0, 0⟩).fit := by
  rw [List.getD_eq_getElem?_getD]
  cases h : s.procs[i]? with
  | none => exact ⟨⟨by decide, by decide, by decide, trivial⟩, ⟨by decide, by decide, by decide, trivial⟩, ⟨by decide, by decide⟩, by decide, by decide⟩
  | some p => exact hf.procs p (List.mem_of_getElem? h)
theorem sm_al {s : Sm} (hf : s.fit) (i : Nat) : (s.aliases.getD i Nd.zero).fit := by
  rw [List.getD_eq_getElem?_getD]
  cases h : s.aliases[i]? with
  | none => exact ⟨by decide, by decide, by decide, trivial⟩
  | some p => exact hf.aliases p (List.mem_of_getElem? h)
theorem sm_pt {s : Sm} (hf : s.fit) : PTB s.tb := by
  have ka : ∀ i : Fin 4, isName (tname i) = true := by decide +kernel
  have ke : ∀ i : Fin 4, isName (ename i) = true := by decide +kernel
  have kp : ∀ i : Fin 4, isName (pname i) = true := by decide +kernel
  have hn := hf.number
  refine ⟨by show isName face = true; decide +kernel, ⟨by show 0 ≤ s.number; omega, by show s.number < _; omega⟩, ⟨by show 0 ≤ s.number % 7; omega, by show s.number % 7 < _; omega⟩, ?_, ?_, ?_⟩
  · intro a ha
    obtain ⟨i, hi, rfl⟩ := List.mem_map.1 ha
    rw [List.mem_range] at hi
    have := sm_as s
    exact ⟨ka ⟨i, by omega⟩, (typ_pt (by decide) (sm_al hf i) (known_names i (by omega))).up (by decide)⟩
  · intro a ha
    obtain ⟨i, hi, rfl⟩ := List.mem_map.1 ha
    rw [List.mem_range] at hi
    have := sm_fs hf
    exact ⟨ke ⟨i, by omega⟩, by show (0 : Int) ≤ 10 * i; omega, by show (10 * i : Int) < _; omega⟩
  · intro a ha
    obtain ⟨i, hi, rfl⟩ := List.mem_map.1 ha
    rw [List.mem_range] at hi
    have := sm_ps s
    obtain ⟨h1, h2, h3, h4, h5⟩ := sm_pr hf i
    have kn := known_names s.as (sm_as s)
    refine ⟨kp ⟨i, by omega⟩, ⟨by show 0 ≤ (i : Int) + s.number % 9; omega, by show (i : Int) + s.number % 9 < _; omega⟩, (typ_pt (by decide) h1 kn).up (by decide), (typ_pt (by decide) h2 kn).up (by decide), ?_, ?_⟩
    · show 0 ≤ _ % 3 ∧ _ % 3 ≤ (2 : Int); omega
    · show 0 ≤ 1 + _ % 1000 ∧ 1 + _ % 1000 < (10 : Int) ^ 10; omega
theorem flat_le {α : Type} (f : α → List Tk) (B : Nat) : ∀ l : List α, (∀ a ∈ l, (f a).length ≤ B) → (l.flatMap f).length ≤ l.length * B
  | [], _ => Nat.zero_le _
  | a :: l, h => by
    have := flat_le f B l fun x hx => h x (List.mem_cons_of_mem _ hx)
    have := h a List.mem_cons_self
    rw [List.flatMap_cons, List.length_append, List.length_cons, Nat.add_mul]; omega
theorem sm_len {s : Sm} (hf : s.fit) : s.tb.toks.length ≤ 20000 := by
  have e1 : s.tb.toks.length = 6 + (s.tb.types.flatMap alTk).length + (s.tb.faults.flatMap flTk).length + (s.tb.procs.flatMap pcTk).length + 1 := by
    simp [TB.toks]; omega
  have h1 := flat_le alTk 772 s.tb.types (fun a ha => by
    obtain ⟨i, hi, rfl⟩ := List.mem_map.1 ha
    have := typ_len (d := 3) (known := known i) (by decide) (sm_al hf i)
    simp only [alTk, List.length_cons, List.length_append, List.length_nil]
    show (Nd.typ 3 _ _).toks.length + 1 + 1 + 1 + 1 ≤ 772; omega)
  have h2 := flat_le flTk 5 s.tb.faults (fun a ha => Nat.le_refl _)
  have h3 := flat_le pcTk 1548 s.tb.procs (fun a ha => by
    obtain ⟨i, hi, rfl⟩ := List.mem_map.1 ha
    obtain ⟨g1, g2, _⟩ := sm_pr hf i
    have := typ_len (d := 3) (known := known s.as) (by decide) g1
    have := typ_len (d := 3) (known := known s.as) (by decide) g2
    simp only [pcTk, List.length_cons, List.length_append, List.length_nil]
    show (Nd.typ 3 _ _).toks.length + ((Nd.typ 3 _ _).toks.length + 5 + 1 + 1) + 1 + 1 + 1 + 1 + 1 ≤ 1548; omega)
  have l1 : s.tb.types.length ≤ 4 := by have := sm_as s; simp [Sm.tb]; exact this
  have l2 : s.tb.faults.length ≤ 3 := by have := sm_fs hf; simp [Sm.tb]; exact this
  have l3 : s.tb.procs.length ≤ 4 := by have := sm_ps s; simp [Sm.tb]; exact this
  rw [e1]
  have := Nat.mul_le_mul_right 772 l1
  have := Nat.mul_le_mul_right 5 l2
  have := Nat.mul_le_mul_right 1548 l3
  omega
end Go.Pv
/- Tokens with something between them, as a text; what is read of it. No condition. -/
namespace Go.Pv
set_option maxRecDepth 100000
def gapTx (k : Int) : ByteArray := if k = 0 then bs [32] else if k = 1 then bs [10] else if k = 2 then bs [9, 32] else if k = 3 then bs [35, 32, 110, 111, 59, 32, 112, 114, 111, 103, 114, 97, 109, 32, 123, 10] else bs [32, 32]
def gapAt (gaps : List Int) (i : Nat) : Int := if 0 < gaps.length then gaps.getD (i % gaps.length) 0 else 0
/-- Texts, and what stands ahead of each. -/
def texM (l : List ByteArray) (gaps : List Int) : Nat → ByteArray
  | 0 => bs []
  | k + 1 => texM l gaps k ++ (gapTx (gapAt gaps k % 5) ++ l.getD k (bs []))
theorem texM_size (l : List ByteArray) (gaps : List Int) : ∀ (j k : Nat), (texM l gaps k).size ≤ (texM l gaps (k + j)).size
  | 0, _ => Nat.le_refl _
  | j + 1, k => by
    have := texM_size l gaps j k
    rw [← Nat.add_assoc, texM, ByteArray.size_append]; omega
/-- A token is one, and short. -/
def goodT (x : Tk) : Prop := tokT x.1 x.2 ∧ x.2.size ≤ 20
def goodB (x : Tk) : Bool := tokB x.1 x.2 && decide (x.2.size ≤ 20)
theorem goodB_ok {x : Tk} (h : goodB x = true) : goodT x := by
  unfold goodB at h
  rw [Bool.and_eq_true, decide_eq_true_eq] at h
  exact ⟨tokB_ok h.1, h.2⟩
theorem good_name {x : ByteArray} (h : isName x = true) : goodT (1, x) := by
  refine ⟨name_tok h, ?_⟩
  unfold isName at h
  simp only [Bool.and_eq_true, decide_eq_true_eq] at h
  exact h.1.1.1.2
theorem good_num {n : Int} (h : numOk n) : goodT (2, numX n) := by
  refine ⟨numX_tok h, ?_⟩
  have := (numTx_size n.toNat).2 9 (by have := h.2; omega)
  show (numTx n.toNat).size ≤ 20; omega
theorem good_all {l : List Tk} (h : l.all goodB = true) : ∀ x ∈ l, goodT x := fun x hx => goodB_ok (List.all_eq_true.1 h x hx)
theorem good_app {a b : List Tk} (ha : ∀ x ∈ a, goodT x) (hb : ∀ x ∈ b, goodT x) : ∀ x ∈ a ++ b, goodT x := fun x hx => (List.mem_append.1 hx).elim (ha x) (hb x)
theorem good_cons {a : Tk} {b : List Tk} (ha : goodT a) (hb : ∀ x ∈ b, goodT x) : ∀ x ∈ a :: b, goodT x := fun x hx => by
  rcases List.mem_cons.1 hx with rfl | hx
  · exact ha
  · exact hb x hx
theorem good_nil : ∀ x ∈ ([] : List Tk), goodT x := fun _ h => by cases h
theorem good_fld {F : List (ByteArray × List Tk)} (hn : ∀ x ∈ F, isName x.1 = true) (h : ∀ x ∈ F, ∀ t ∈ x.2, goodT t) : ∀ t ∈ fldToks F, goodT t := by
  induction F with
  | nil => exact good_nil
  | cons x F ih =>
    obtain ⟨s, u⟩ := x
    have h1 := hn _ List.mem_cons_self
    have h2 := h _ List.mem_cons_self
    cases F with
    | nil => exact good_cons (good_name h1) h2
    | cons y F =>
      have ih := ih (fun x hx => hn x (List.mem_cons_of_mem _ hx)) (fun x hx => h x (List.mem_cons_of_mem _ hx))
      exact good_app (good_cons (good_name h1) h2) (good_cons (goodB_ok (by decide +kernel)) ih)
theorem good_type {d : Nat} {t : KT} (h : PT d t) : ∀ x ∈ t.toks, goodT x := by
  induction h with
  | base d k hk =>
    rw [KT.toks, if_neg (by omega), if_neg (by omega), if_neg (by omega), if_neg (by omega), if_neg (by omega), if_neg (by omega)]
    have : k = 0 ∨ k = 1 ∨ k = 2 ∨ k = 3 := by omega
    rcases this with rfl | rfl | rfl | rfl <;> exact good_all (by decide +kernel)
  | text d m hm =>
    rw [KT.toks, if_pos rfl]
    exact good_cons (goodB_ok (by decide +kernel)) (good_cons (goodB_ok (by decide +kernel)) (good_cons (good_num hm) (good_cons (goodB_ok (by decide +kernel)) good_nil)))
  | seq d m o hm ho ih =>
    rw [KT.toks, if_neg (by decide), if_pos rfl]
    exact good_app (good_cons (goodB_ok (by decide +kernel)) (good_cons (goodB_ok (by decide +kernel)) (good_cons (good_num hm) (good_cons (goodB_ok (by decide +kernel)) (good_cons (goodB_ok (by decide +kernel)) good_nil))))) ih
  | reco d k n o hk hl hn0 hn ho ih =>
    have key : ∀ x ∈ fldToks (n.zip ((KT.toksL o).map fun t => ((3, sColon) :: t : List Tk))), goodT x := by
      rw [zip_eq]
      refine good_fld (fun x hx => ?_) (fun x hx t ht => ?_)
      · obtain ⟨y, hy, rfl⟩ := List.mem_map.1 hx
        exact hn _ (List.of_mem_zip hy).1
      · obtain ⟨y, hy, rfl⟩ := List.mem_map.1 hx
        exact good_cons (goodB_ok (by decide +kernel)) (ih y.2 (List.of_mem_zip hy).2) t ht
    rcases hk with rfl | rfl
    · rw [KT.toks, if_neg (by decide), if_neg (by decide), if_pos rfl]
      exact good_cons (goodB_ok (by decide +kernel)) (good_cons (goodB_ok (by decide +kernel)) (good_app key (good_cons (goodB_ok (by decide +kernel)) good_nil)))
    · rw [KT.toks, if_neg (by decide), if_neg (by decide), if_neg (by decide), if_pos rfl]
      exact good_cons (goodB_ok (by decide +kernel)) (good_cons (goodB_ok (by decide +kernel)) (good_app key (good_cons (goodB_ok (by decide +kernel)) good_nil)))
  | enum d n hn0 hn =>
    rw [KT.toks, if_neg (by decide), if_neg (by decide), if_neg (by decide), if_neg (by decide), if_pos rfl]
    refine good_cons (goodB_ok (by decide +kernel)) (good_cons (goodB_ok (by decide +kernel)) (good_app (good_fld (fun x hx => ?_) (fun x hx t ht => ?_)) (good_cons (goodB_ok (by decide +kernel)) good_nil)))
    · obtain ⟨y, hy, rfl⟩ := List.mem_map.1 hx; exact hn _ hy
    · obtain ⟨y, hy, rfl⟩ := List.mem_map.1 hx; cases ht
  | ref d x hx =>
    rw [KT.toks, if_neg (by decide), if_neg (by decide), if_neg (by decide), if_neg (by decide), if_neg (by decide), if_pos rfl]
    exact good_cons (good_name hx) good_nil
theorem good_flat {α : Type} {f : α → List Tk} {l : List α} (h : ∀ a ∈ l, ∀ x ∈ f a, goodT x) : ∀ x ∈ l.flatMap f, goodT x := fun x hx => by
  obtain ⟨a, ha, hx⟩ := List.mem_flatMap.1 hx
  exact h a ha x hx
theorem good_table {t : TB} (h : PTB t) : ∀ x ∈ t.toks, goodT x := by
  have k1 := fun x => goodB_ok (x := x)
  unfold TB.toks
  refine good_cons (k1 _ (by decide +kernel)) (good_cons (good_name h.name) (good_cons (good_num h.number) (good_cons (k1 _ (by decide +kernel)) (good_cons (good_num h.version) (good_cons (k1 _ (by decide +kernel)) (good_app ?_ (good_app ?_ (good_app ?_ (good_cons (k1 _ (by decide +kernel)) good_nil)))))))))
  · refine good_flat fun a ha => ?_
    obtain ⟨h1, h2⟩ := h.types a ha
    exact good_cons (k1 _ (by decide +kernel)) (good_cons (good_name h1) (good_cons (k1 _ (by decide +kernel)) (good_app (good_type h2) (good_cons (k1 _ (by decide +kernel)) good_nil))))
  · refine good_flat fun a ha => ?_
    obtain ⟨h1, h2⟩ := h.faults a ha
    exact good_cons (k1 _ (by decide +kernel)) (good_cons (good_name h1) (good_cons (k1 _ (by decide +kernel)) (good_cons (good_num h2) (good_cons (k1 _ (by decide +kernel)) good_nil))))
  · refine good_flat fun a ha => ?_
    obtain ⟨h1, h2, h3, h4, h5, h6⟩ := h.procs a ha
    have hc : goodT (1, colX a.collate) := by
      have : a.collate = 0 ∨ a.collate = 1 ∨ a.collate = 2 := by omega
      rcases this with e | e | e <;> rw [e] <;> exact k1 _ (by decide +kernel)
    exact good_cons (k1 _ (by decide +kernel)) (good_cons (good_name h1) (good_cons (k1 _ (by decide +kernel)) (good_cons (good_num h2) (good_cons (k1 _ (by decide +kernel)) (good_app (good_type h3) (good_cons (k1 _ (by decide +kernel)) (good_cons (k1 _ (by decide +kernel)) (good_app (good_type h4) (good_cons (k1 _ (by decide +kernel)) (good_cons hc (good_cons (k1 _ (by decide +kernel)) (good_cons (good_num h6) (good_cons (k1 _ (by decide +kernel)) good_nil)))))))))))))
/-- The pieces of a text of tokens. -/
def itG (gaps : List Int) : Nat → List Tk → List It
  | _, [] => []
  | i, x :: xs => ⟨(gapTx (gapAt gaps i % 5)).toList, x.1, x.2⟩ :: itG gaps (i + 1) xs
theorem itG_tks (gaps : List Int) : ∀ (i : Nat) (l : List Tk), tks (itG gaps i l) = l
  | _, [] => rfl
  | i, x :: xs => by rw [itG, tks, List.map_cons]; exact congrArg _ (itG_tks gaps (i + 1) xs)
theorem itG_app (gaps : List Int) : ∀ (a : List Tk) (i : Nat) (b : List Tk), itG gaps i (a ++ b) = itG gaps i a ++ itG gaps (i + a.length) b
  | [], i, b => rfl
  | x :: a, i, b => by
    rw [List.cons_append, itG, itG, itG_app gaps a, List.cons_append, List.length_cons, Nat.add_assoc, Nat.add_comm 1]
theorem gapTx_ok (k : Int) : GapL (gapTx k).toList ∧ ∃ c l, (gapTx k).toList = c :: l ∧ wordB (u8 c) = false := by
  unfold gapTx
  have one : ∀ b : ByteArray, gapB b.toList = true → (∃ c l, b.toList = c :: l ∧ wordB (u8 c) = false) → GapL b.toList ∧ ∃ c l, b.toList = c :: l ∧ wordB (u8 c) = false := fun b h1 h2 => ⟨gapB_ok h1, h2⟩
  have tl : ∀ l : List Nat, (bs l).toList = l.map fun n => UInt8.ofNat n := fun l => by rw [ByteArray.toList_eq]; rfl
  split
  · exact one _ (by decide +kernel) ⟨_, _, tl _, by decide⟩
  split
  · exact one _ (by decide +kernel) ⟨_, _, tl _, by decide⟩
  split
  · exact one _ (by decide +kernel) ⟨_, _, tl _, by decide⟩
  split
  · refine ⟨?_, _, _, tl _, by decide⟩
    have e : (bs [35, 32, 110, 111, 59, 32, 112, 114, 111, 103, 114, 97, 109, 32, 123, 10]).toList = 35 :: ([32, 110, 111, 59, 32, 112, 114, 111, 103, 114, 97, 109, 32, 123] ++ (10 :: [])) := by decide +kernel
    rw [e]
    exact .com _ _ (by decide) .nil
  · exact one _ (by decide +kernel) ⟨_, _, tl _, by decide⟩
theorem itG_sep (gaps : List Int) (i : Nat) (l : List Tk) {post : List UInt8} (h : sepL post) : sepL (catL (itG gaps i l) ++ post) := by
  cases l with
  | nil => exact h
  | cons x l =>
    obtain ⟨_, c, g, e, hc⟩ := gapTx_ok (gapAt gaps i % 5)
    have : catL (itG gaps i (x :: l)) = c :: (g ++ x.2.toList ++ catL (itG gaps (i + 1) l)) := by
      simp only [itG, catL, List.flatMap_cons, It.bytes, e, List.cons_append]
    rw [this]
    exact sep_blank hc
theorem itG_ok (gaps : List Int) : ∀ (l : List Tk) (i : Nat) (post : List UInt8), (∀ x ∈ l, goodT x) → sepL post → itemsOk (itG gaps i l) post
  | [], _, _, _, _ => trivial
  | x :: l, i, post, h, hp => by
    have hl := fun y hy => h y (List.mem_cons_of_mem _ hy)
    exact ⟨(gapTx_ok _).1, (h x List.mem_cons_self).1, .inr (itG_sep gaps (i + 1) l hp), itG_ok gaps l (i + 1) post hl hp⟩
theorem texM_cat (gaps : List Int) (l : List Tk) : ∀ k, k ≤ l.length → (texM (l.map (·.2)) gaps k).toList = catL (itG gaps 0 (l.take k))
  | 0, _ => by rw [List.take_zero]; show (bs []).toList = []; decide +kernel
  | k + 1, h => by
    have hk : k < l.length := h
    rw [texM, toList_append, texM_cat gaps l k (by omega), List.take_succ_eq_append_getElem hk, itG_app, catL_app, List.length_take, Nat.min_eq_left (by omega), Nat.zero_add, toList_append]
    have : (l.map (·.2)).getD k (bs []) = (l[k]).2 := by rw [List.getD_eq_getElem?_getD, List.getElem?_map, List.getElem?_eq_getElem hk]; rfl
    rw [this]
    simp [itG, catL, It.bytes]
theorem texM_all (gaps : List Int) (l : List Tk) : (texM (l.map (·.2)) gaps l.length).toList = catL (itG gaps 0 l) := by
  have := texM_cat gaps l l.length (Nat.le_refl _)
  rwa [List.take_length] at this
theorem gapTx_size (k : Int) : (gapTx k).size ≤ 16 := by
  unfold gapTx
  split
  · decide
  split
  · decide
  split
  · decide
  split <;> decide
theorem texM_small (l : List ByteArray) (gaps : List Int) (h : ∀ x ∈ l, x.size ≤ 20) : ∀ k, k ≤ l.length → (texM l gaps k).size ≤ 36 * k
  | 0, _ => by show (0 : Nat) ≤ _; omega
  | k + 1, hk => by
    have := texM_small l gaps h k (by omega)
    have := gapTx_size (gapAt gaps k % 5)
    have hx : (l.getD k (bs [])).size ≤ 20 := by
      rw [List.getD_eq_getElem?_getD, List.getElem?_eq_getElem (by omega)]
      exact h _ (List.getElem_mem _)
    rw [texM, ByteArray.size_append, ByteArray.size_append]; omega
/-- A table as a text, whatever stands between its tokens. -/
theorem parse_text {t : TB} (h : PTB t) (gaps : List Int) (hs : (texM (t.toks.map (·.2)) gaps t.toks.length).size ≤ 4000) :
    parseM (texM (t.toks.map (·.2)) gaps t.toks.length) = if t.check ≠ 0 then (TB.zero, ((texM (t.toks.map (·.2)) gaps t.toks.length).size : Int), t.check) else (t, 0, 0) :=
  parse_items (items := itG gaps 0 t.toks) (tail := []) (by rw [texM_all, List.append_nil]) .nil (itG_ok gaps t.toks 0 [] (good_table h) sepL_nil) hs h (itG_tks gaps 0 t.toks)
theorem parse_long {s : ByteArray} (h : 4000 < s.size) : parseM s = (TB.zero, 4000, 6) := by
  unfold parseM
  rw [show lexM s = .bad 4000 6 from if_pos h]
  rfl
end Go.Pv
