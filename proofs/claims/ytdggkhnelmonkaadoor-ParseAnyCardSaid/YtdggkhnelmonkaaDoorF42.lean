/- What is parsed prints to a text that parses to the same; errors and where they are. No condition. -/
import Derived.Test.YtdggkhnelmonkaaDoorF41
import Derived.Test.YtdggkhnelmonkaaDoorF35
import Derived.Test.YtdggkhnelmonkaaDoorF38
namespace Go.Pv
set_option maxRecDepth 100000

theorem gap0 (i : Nat) : gapTx (gapAt [] i % 5) = bs [32] := by rw [gapAt, if_neg (by decide)]; rfl
theorem Mt.get {l : List LTok} : ∀ {ts : List Tk} {k i : Nat} (hi : i < ts.length), Mt l k ts → tkAt l (k + i) = ts[i]
  | [], _, _, hi, _ => by simp at hi
  | t :: ts, k, 0, _, h => h.1
  | t :: ts, k, i + 1, hi, h => by
    have := Mt.get (i := i) (by simpa using hi) h.2
    rw [List.getElem_cons_succ, ← this]
    congr 1; omega
theorem tok_out {out : List LTok} {e : LTok} {i : Nat} (hi : i < out.length) : tokAt (out ++ [e]) i = out[i] := by
  rw [tokAt, List.getD_eq_getElem?_getD, List.getElem?_append_left hi, List.getElem?_eq_getElem hi]; rfl
theorem tokT_size {k : Int} {t : ByteArray} (h : tokT k t) : 1 ≤ t.size ∧ k ≠ 0 := by
  have key : t.toList ≠ [] → 1 ≤ t.size := fun h => by
    rw [← size_toList]
    cases e : t.toList with
    | nil => exact absurd e h
    | cons a b => simp
  rcases h with ⟨rfl, h⟩ | ⟨rfl, h⟩ | ⟨rfl, h⟩
  · exact ⟨key h.pos, by decide⟩
  · exact ⟨key h.pos, by decide⟩
  · refine ⟨key fun e => ?_, by decide⟩
    have := h.one
    rw [e] at this; cases this
theorem sum_len : ∀ (out : List LTok), (∀ x ∈ out, tokT x.kind x.text) → out.length ≤ sumT out
  | [], _ => Nat.le_refl _
  | x :: out, h => by
    have := sum_len out fun y hy => h y (List.mem_cons_of_mem _ hy)
    have := (tokT_size (h x List.mem_cons_self)).1
    simp only [sumT, List.map_cons, List.sum_cons, List.length_cons] at *; omega
def tkOf (x : LTok) : Tk := (x.kind, x.text)
theorem nil_size : ∀ (l : List LTok) (n : Nat), (catL (itG [] n (l.map tkOf))).length = l.length + sumT l
  | [], _ => rfl
  | x :: l, n => by
    have := nil_size l (n + 1)
    have h2 : (bs [32]).toList.length = 1 := by decide +kernel
    simp only [List.map_cons, itG, catL, List.flatMap_cons, It.bytes, List.length_append, gap0, h2, tkOf, size_toList, List.length_cons, sumT, List.sum_cons] at this ⊢
    rw [this]; omega
/-- A table that was read: its tokens are the text's. -/
theorem table_out {s : ByteArray} {l : List LTok} (hl : lexM s = .ok l) {t : TB} {k : Nat} (ht : tableM l 0 = .ok t k) : PTB t ∧ ∃ out : List LTok, l = out ++ [⟨0, s.size, bs []⟩] ∧ t.toks = out.map tkOf ∧ out.length + sumT out ≤ 2 * s.size := by
  have h := lexM_wt hl
  obtain ⟨hk, ts, hm, e, hp, rfl, h0⟩ := (h.table h.toked.pos).1 t k ht
  obtain ⟨out, rfl, ho, hs⟩ := h.split
  have hlen : t.toks.length = out.length := by
    rw [List.length_append, List.length_singleton] at hk
    by_cases hlt : t.toks.length < out.length
    · rw [tok_out hlt] at h0
      exact absurd h0 (tokT_size (ho _ (List.getElem_mem hlt))).2
    · omega
  refine ⟨hp, out, rfl, ?_, ?_⟩
  · refine List.ext_getElem (by rw [List.length_map]; exact hlen) fun i h1 h2 => ?_
    have := hm.get h1
    rw [Nat.zero_add] at this
    rw [← this, List.getElem_map, tkAt, tok_out (by omega)]; rfl
  · have := sum_len out ho; omega
theorem parse_ok {s : ByteArray} (h0 : (parseM s).2.2 = 0) : ∃ l t k, lexM s = .ok l ∧ tableM l 0 = .ok t k ∧ t.check = 0 ∧ parseM s = (t, 0, 0) := by
  cases hl : lexM s with
  | bad p e =>
    have hb := (lexM_badP hl).1
    unfold parseM at h0
    rw [hl] at h0
    exact absurd h0 hb
  | ok l =>
    have h := lexM_wt hl
    cases ht : tableM l 0 with
    | err p e =>
      have hb := ((h.table h.toked.pos).2 p e ht).1
      unfold parseM at h0
      rw [hl] at h0
      simp only [ht] at h0
      exact absurd h0 hb
    | ok t k =>
      have e : parseM s = if t.check ≠ 0 then (TB.zero, (s.size : Int), t.check) else (t, 0, 0) := by
        unfold parseM
        rw [hl]
        simp only [ht]
      by_cases hc : t.check = 0
      · rw [if_neg (by rw [hc]; simp)] at e
        exact ⟨l, t, k, rfl, ht, hc, e⟩
      · rw [if_pos hc] at e
        rw [e] at h0
        exact absurd h0 hc
/-- What is parsed, printed, is parsed as the same. -/
theorem any_ok {s : ByteArray} (h0 : (parseM s).2.2 = 0) (hs : s.size ≤ 2000 ∨ ∃ X : List Tk, (∀ x ∈ X, goodT x) ∧ s = texM (TX X) [] (TX X).length) :
    ∃ t : TB, parseM s = (t, 0, 0) ∧ PTB t ∧ t.check = 0 ∧ t.toks.length ≤ 20000 ∧ (texM (TX t.toks) [] (TX t.toks).length).size ≤ 4000 ∧ parseM (texM (TX t.toks) [] (TX t.toks).length) = (t, 0, 0) := by
  obtain ⟨l, t, k, hl, ht, hc, e⟩ := parse_ok h0
  obtain ⟨hp, out, rfl, htk, hsz⟩ := table_out hl ht
  have h4 := (lexM_ok hl).1
  have hle : (TX t.toks).length = t.toks.length := List.length_map _
  have hcs : (catL (itG [] 0 t.toks)).length = (texM (TX t.toks) [] t.toks.length).size := by rw [← texM_all, size_toList]
  have hol : t.toks.length = out.length := by rw [htk, List.length_map]
  have hsize : (texM (TX t.toks) [] (TX t.toks).length).size ≤ 4000 := by
    rcases hs with hs | ⟨X, hX, rfl⟩
    · rw [hle, ← hcs, htk, nil_size]; omega
    · have hXl : (TX X).length = X.length := List.length_map _
      rw [hXl] at hl h4
      have h2 := lex_text hX [] h4
      rw [hl] at h2
      have h3 : out = toksAt 0 (itG [] 0 X) := by
        have := LexO.ok.inj h2
        exact (List.append_inj this (by
          have := congrArg List.length this
          rw [List.length_append, List.length_append] at this; simpa using this)).1
      have hXt : t.toks = X := by
        rw [htk, h3]
        have := itG_tks [] 0 X
        have gen : ∀ (L : List It) (n : Nat), (toksAt n L).map tkOf = tks L := by
          intro L
          induction L with
          | nil => intro n; rfl
          | cons x L ih => intro n; rw [toksAt, List.map_cons, ih]; rfl
        rw [gen, this]
      rw [hXt, hXl]; exact h4
  refine ⟨t, e, hp, hc, ?_, hsize, ?_⟩
  · omega
  · have := parse_text hp [] (by rw [hle] at hsize; exact hsize)
    rw [if_neg (by rw [hc]; simp)] at this
    rw [hle]; exact this
theorem any_err {s : ByteArray} (h0 : (parseM s).2.2 ≠ 0) : ∃ p e : Int, parseM s = (TB.zero, p, e) ∧ e ≠ 0 ∧ 0 ≤ p ∧ p ≤ s.size ∧ ∀ q f, lexM s = .bad q f → p = q ∧ e = f := by
  cases hl : lexM s with
  | bad p e =>
    obtain ⟨hb, hp⟩ := lexM_badP hl
    refine ⟨p, e, by unfold parseM; rw [hl], hb, by omega, by omega, fun q f h => ?_⟩
    cases h; exact ⟨rfl, rfl⟩
  | ok l =>
    have h := lexM_wt hl
    cases ht : tableM l 0 with
    | err p e =>
      obtain ⟨h1, h2, h3⟩ := (h.table h.toked.pos).2 p e ht
      exact ⟨p, e, by unfold parseM; rw [hl]; simp only [ht], h1, h2, h3, fun q f h => by cases h⟩
    | ok t k =>
      have e : parseM s = if t.check ≠ 0 then (TB.zero, (s.size : Int), t.check) else (t, 0, 0) := by
        unfold parseM
        rw [hl]
        simp only [ht]
      by_cases hc : t.check = 0
      · rw [if_neg (by rw [hc]; simp)] at e
        rw [e] at h0
        exact absurd rfl h0
      · rw [if_pos hc] at e
        exact ⟨_, _, e, hc, by omega, by omega, fun q f h => by cases h⟩
end Go.Pv
