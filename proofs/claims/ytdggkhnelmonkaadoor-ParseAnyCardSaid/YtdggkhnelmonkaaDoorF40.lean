/- What is lexed: tokens that are tokens, few of them; numbers as they are printed. No condition. -/
import Derived.Test.YtdggkhnelmonkaaDoorF21
namespace Go.Pv
set_option maxRecDepth 100000

theorem scanB_all (p : Int → Bool) (s : ByteArray) : ∀ (f i j : Nat), i ≤ j → j < scanB p s f i → p (byteAt s j) = true
  | 0, i, j, h1, h2 => by rw [scanB] at h2; omega
  | f + 1, i, j, h1, h2 => by
    rw [scanB] at h2
    split at h2
    · rename_i h
      by_cases e : j = i
      · rw [e]; first | exact h.2 | exact h
      · exact scanB_all p s f (i + 1) j (by omega) h2
    · omega
theorem spanB_all {p : Int → Bool} {s : ByteArray} {i j : Nat} (h1 : i ≤ j) (h2 : j < spanB p s i) : p (byteAt s j) = true := scanB_all p s _ i j h1 h2
theorem ext_bytes {s : ByteArray} {i j : Nat} (hj : j ≤ s.size) : (s.extract i j).size = j - i := by rw [ByteArray.size_extract, Nat.min_eq_left hj]
theorem ext_mem {p : Int → Bool} {s : ByteArray} {i j : Nat} (hj : j ≤ s.size) (h : ∀ k, i ≤ k → k < j → p (byteAt s k) = true) : ∀ c ∈ (s.extract i j).toList, p (u8 c) = true := by
  intro c hc
  rw [toList_extract] at hc
  obtain ⟨k, hk, rfl⟩ := List.getElem_of_mem hc
  rw [List.length_drop, List.length_take, size_toList] at hk
  have := h (i + k) (by omega) (by omega)
  rw [List.getElem_drop, List.getElem_take]
  rw [byteAt_list, List.getD_eq_getElem?_getD, List.getElem?_eq_getElem (by rw [size_toList]; omega)] at this
  exact this
theorem ext_first {s : ByteArray} {i j : Nat} (hi : i < j) (hj : j ≤ s.size) : byteAt (s.extract i j) 0 = byteAt s i := by
  rw [byteAt_list, byteAt_list, toList_extract, List.getD_eq_getElem?_getD, List.getD_eq_getElem?_getD, List.getElem?_drop, Nat.add_zero, List.getElem?_take_of_lt hi]
theorem ext_ne {s : ByteArray} {i j : Nat} (hi : i < j) (hj : j ≤ s.size) : (s.extract i j).toList ≠ [] := by
  intro e
  have := congrArg List.length e
  rw [size_toList, ext_bytes hj, List.length_nil] at this; omega
def sumT (l : List LTok) : Nat := (l.map fun x => x.text.size).sum
theorem sumT_app (l : List LTok) (x : LTok) : sumT (l ++ [x]) = sumT l + x.text.size := by simp [sumT]
theorem lexGo_wt (s : ByteArray) : ∀ (f i : Nat) (out l : List LTok), lexGo s f i out = .ok l → i ≤ s.size → (∀ x ∈ out, tokT x.kind x.text) → sumT out ≤ i → (∀ x ∈ l, tokT x.kind x.text) ∧ sumT l ≤ s.size
  | 0, i, out, l, h, hi, ho, hl => by cases h; exact ⟨ho, by omega⟩
  | f + 1, i, out, l, h, hi, ho, hl => by
    rw [lexGo] at h
    split at h
    rotate_left
    · cases h; exact ⟨ho, by omega⟩
    rename_i hlt
    have add : ∀ (k : Int) (j : Nat), tokT k (s.extract i j) → ∀ x ∈ out ++ [(⟨k, i, s.extract i j⟩ : LTok)], tokT x.kind x.text := by
      intro k j hk x hx
      rcases List.mem_append.1 hx with hx | hx
      · exact ho x hx
      · rw [List.mem_singleton.1 hx]; exact hk
    split at h
    · exact lexGo_wt s f _ _ _ h (by omega) ho (by omega)
    split at h
    · have := spanB_le restB s hi
      exact lexGo_wt s f _ _ _ h this.2 ho (by omega)
    split at h
    · rename_i hc
      have h1 := spanB_le wordB s hi
      have h2 : i + 1 ≤ spanB wordB s i := spanB_pos hlt (by rw [wordB, hc]; rfl)
      refine lexGo_wt s f _ _ _ h h1.2 (add 1 _ (.inl ⟨rfl, ext_ne h2 h1.2, ?_, ext_mem h1.2 fun k a b => spanB_all a b⟩)) ?_
      · rw [ext_first h2 h1.2]; exact hc
      · rw [sumT_app]; simp only [ext_bytes h1.2]; omega
    split at h
    · rename_i hc
      split at h
      · cases h
      rename_i hb
      have h1 := spanB_le digit s hi
      have h2 : i + 1 ≤ spanB digit s i := spanB_pos hlt hc
      refine lexGo_wt s f _ _ _ h h1.2 (add 2 _ (.inr (.inl ⟨rfl, ext_ne h2 h1.2, ?_, ?_, ext_mem h1.2 fun k a b => spanB_all a b⟩))) ?_
      · rw [size_toList, ext_bytes h1.2]; omega
      · rw [size_toList, ext_bytes h1.2, ext_first h2 h1.2]
        intro h3 h4
        exact hb (.inr ⟨h4, h3⟩)
      · rw [sumT_app]; simp only [ext_bytes h1.2]; omega
    split at h
    · rename_i hc
      refine lexGo_wt s f _ _ _ h (by omega) (add 3 _ (.inr (.inr ⟨rfl, ?_, ?_⟩))) ?_
      · rw [size_toList, ext_bytes (by omega)]; omega
      · rw [ext_first (by omega) (by omega)]; exact hc
      · rw [sumT_app]; simp only [ext_bytes (s := s) (i := i) (j := i + 1) (by omega)]; omega
    · cases h
/-- Every token but the last is one. -/
structure WT (s : ByteArray) (l : List LTok) : Prop where
  toked : Toked l
  tok : ∀ k, (tokAt l k).kind ≠ 0 → tokT (tokAt l k).kind (tokAt l k).text
  pos : ∀ k, (tokAt l k).pos ≤ s.size
  split : ∃ out : List LTok, l = out ++ [⟨0, s.size, bs []⟩] ∧ (∀ x ∈ out, tokT x.kind x.text) ∧ sumT out ≤ s.size
theorem lexM_wt {s : ByteArray} {l : List LTok} (h : lexM s = .ok l) : WT s l := by
  have ht := lexM_toked h
  obtain ⟨hs, out, ho, rfl⟩ := lexM_ok h
  obtain ⟨h1, h2⟩ := lexGo_wt s _ _ _ _ ho (Nat.zero_le _) (fun _ h => by cases h) (Nat.zero_le _)
  obtain ⟨h3, _⟩ := lexGo_all s _ _ _ _ ho (Nat.zero_le _) (fun _ h => by cases h) (Nat.zero_le _)
  have key : ∀ k x, (out ++ [(⟨0, s.size, bs []⟩ : LTok)])[k]? = some x → x ∈ out ∨ x = ⟨0, s.size, bs []⟩ := fun k x hx => by
    rcases List.mem_append.1 (List.mem_of_getElem? hx) with h | h
    · exact .inl h
    · exact .inr (List.mem_singleton.1 h)
  refine ⟨ht, fun k hk => ?_, fun k => ?_, out, rfl, h1, h2⟩
  · rw [tokAt, List.getD_eq_getElem?_getD] at hk ⊢
    cases e : (out ++ [(⟨0, s.size, bs []⟩ : LTok)])[k]? with
    | none => rw [e] at hk; exact absurd rfl hk
    | some x =>
      rw [e] at hk
      rcases key k x e with h | rfl
      · exact h1 x h
      · exact absurd rfl hk
  · rw [tokAt, List.getD_eq_getElem?_getD]
    cases e : (out ++ [(⟨0, s.size, bs []⟩ : LTok)])[k]? with
    | none => exact Nat.zero_le _
    | some x =>
      rcases key k x e with h | rfl
      · exact Nat.le_of_lt (h3 x h).2.2
      · exact Nat.le_refl _
theorem lexM_badP {s : ByteArray} {p : Nat} {e : Int} (h : lexM s = .bad p e) : e ≠ 0 ∧ p ≤ s.size := by
  have key : ∀ (f i : Nat) (out : List LTok), i ≤ s.size → lexGo s f i out = .bad p e → e ≠ 0 ∧ p ≤ s.size := by
    intro f
    induction f with
    | zero => intro i out _ h; cases h
    | succ f ih =>
      intro i out hi h
      rw [lexGo] at h
      split at h
      rotate_left
      · cases h
      split at h
      · exact ih _ _ (by omega) h
      split at h
      · exact ih _ _ (spanB_le restB s hi).2 h
      split at h
      · exact ih _ _ (spanB_le wordB s hi).2 h
      split at h
      · split at h
        · cases h; exact ⟨by decide, hi⟩
        · exact ih _ _ (spanB_le digit s hi).2 h
      split at h
      · exact ih _ _ (by omega) h
      · cases h; exact ⟨by decide, hi⟩
  unfold lexM at h
  split at h
  · cases h; exact ⟨by decide, by omega⟩
  · cases hg : lexGo s (s.size + 1) 0 [] with
    | ok l => rw [hg] at h; cases h
    | bad q d => rw [hg] at h; cases h; exact key _ _ _ (Nat.zero_le _) hg
/-- A number's text is the number, printed. -/
theorem num_inv : ∀ (m : Nat) (L : List UInt8), L.length = m + 1 → (∀ c ∈ L, digit (u8 c) = true) → (L.length > 1 → L.head? ≠ some 48) → ∃ n : Nat, n < 10 ^ (m + 1) ∧ (numTx n).toList = L := by
  have dig : ∀ c : UInt8, digit (u8 c) = true → 48 ≤ c.toNat ∧ c.toNat ≤ 57 := by
    intro c h
    simp only [u8, digit, Bool.and_eq_true, decide_eq_true_eq] at h
    exact ⟨by omega, by omega⟩
  intro m
  induction m with
  | zero =>
    intro L hl hd _
    obtain ⟨c, rfl⟩ := List.length_eq_one_iff.1 hl
    have hc := dig c (hd c (List.mem_singleton_self _))
    refine ⟨c.toNat - 48, by omega, ?_⟩
    rw [numTx, if_pos (by omega), show 48 + (c.toNat - 48) = c.toNat by omega, bs1_toList, UInt8.ofNat_toNat]
  | succ m ih =>
    intro L hl hd hh
    have hne : L ≠ [] := by rintro rfl; simp at hl
    have e := List.dropLast_concat_getLast hne
    generalize L.dropLast = A at e
    generalize L.getLast hne = c at e
    subst e
    rw [List.length_append, List.length_singleton] at hl hh
    have hA : A.length = m + 1 := by omega
    obtain ⟨a, A', rfl⟩ : ∃ a A', A = a :: A' := by cases A with | nil => simp at hA | cons a A' => exact ⟨a, A', rfl⟩
    have hh := hh (by omega)
    obtain ⟨n, hn, ht⟩ := ih (a :: A') hA (fun c hc => hd c (List.mem_append_left _ hc)) (fun _ => hh)
    have hc := dig c (hd c (by simp))
    have hn0 : n ≠ 0 := by
      rintro rfl
      have e0 : (numTx 0).toList = [48] := by decide +kernel
      rw [e0] at ht
      cases ht
      exact hh rfl
    refine ⟨10 * n + (c.toNat - 48), by rw [Nat.pow_succ] at hn ⊢; omega, ?_⟩
    rw [numTx, if_neg (by omega), show (10 * n + (c.toNat - 48)) / 10 = n by omega, show 48 + (10 * n + (c.toNat - 48)) % 10 = c.toNat by omega, toList_append, ht, bs1_toList, UInt8.ofNat_toNat]
theorem numT_inv {t : ByteArray} (h : numT t) : ∃ n : Int, numOk n ∧ numX n = t := by
  obtain ⟨m, hm⟩ := Nat.exists_eq_succ_of_ne_zero (show t.toList.length ≠ 0 from fun e => h.pos (List.length_eq_zero_iff.1 e))
  obtain ⟨n, hn, e⟩ := num_inv m t.toList hm h.all (fun hl he => by
    refine h.lead hl ?_
    rw [byteAt_list, List.getD_eq_getElem?_getD, ← List.head?_eq_getElem?, he]; rfl)
  have hlen := h.len
  refine ⟨n, ⟨by omega, ?_⟩, ba_eq e⟩
  have : 10 ^ (m + 1) ≤ 10 ^ 10 := Nat.pow_le_pow_right (by decide) (by omega)
  omega
end Go.Pv
