/- What is read of tokens is printed as those tokens. No condition. -/
import Derived.Test.YtdggkhnelmonkaaDoorF40
namespace Go.Pv
set_option maxRecDepth 100000

theorem wt_word {s : ByteArray} {l : List LTok} (h : WT s l) {k : Nat} {w : ByteArray} (hi : isM l k w = true) (hw : letter (byteAt w 0) = true) : tkAt l k = (1, w) := by
  unfold isM at hi
  simp only [Bool.and_eq_true, bne_iff_ne, ne_eq] at hi
  obtain ⟨h0, h2, h3⟩ := hi
  have h3 := seqB_iff.1 h3
  rcases h.tok k h0 with ⟨e, _⟩ | ⟨e, _⟩ | ⟨e, g⟩
  · rw [tkAt, e, h3]
  · exact absurd e h2
  · have := (sign_not g.ok).2.2.1
    rw [h3, hw] at this; cases this
theorem wt_sign {s : ByteArray} {l : List LTok} (h : WT s l) {k : Nat} {w : ByteArray} (hi : isM l k w = true) (hw : letter (byteAt w 0) = false) : tkAt l k = (3, w) := by
  unfold isM at hi
  simp only [Bool.and_eq_true, bne_iff_ne, ne_eq] at hi
  obtain ⟨h0, h2, h3⟩ := hi
  have h3 := seqB_iff.1 h3
  rcases h.tok k h0 with ⟨e, g⟩ | ⟨e, _⟩ | ⟨e, _⟩
  · have := g.first
    rw [h3, hw] at this; cases this
  · exact absurd e h2
  · rw [tkAt, e, h3]
/-- What is read, and of which tokens; or an error, at a place in the text. -/
def PX {α : Type} (s : ByteArray) (l : List LTok) (k : Nat) (o : PO α) (Q : α → List Tk → Prop) : Prop :=
  (∀ v k', o = .ok v k' → k' < l.length ∧ ∃ ts, Mt l k ts ∧ k' = k + ts.length ∧ Q v ts) ∧ ∀ p e, o = .err p e → e ≠ 0 ∧ 0 ≤ p ∧ p ≤ s.size
section
variable {s : ByteArray} {l : List LTok} (h : WT s l)
include h
theorem WT.fail {α : Type} (k : Nat) (e : Int) (he : e ≠ 0) (Q : α → List Tk → Prop) : PX s l k (failM l k e) Q := by
  refine ⟨fun v k' e => (by cases e), fun p x e => ?_⟩
  cases e
  have := h.pos k
  exact ⟨he, by omega, by omega⟩
omit h in
theorem PX.ok {α : Type} {k : Nat} {v : α} {Q : α → List Tk → Prop} (hk : k < l.length) (hq : Q v []) : PX s l k (.ok v k) Q :=
  ⟨fun v' k' e => by cases e; exact ⟨hk, [], trivial, rfl, hq⟩, fun p x e => by cases e⟩
omit h in
theorem PX.bind {α β : Type} {k : Nat} {o : PO α} {f : α → Nat → PO β} {Q : α → List Tk → Prop} {R : β → List Tk → Prop} (ho : PX s l k o Q)
    (hf : ∀ v ts, Q v ts → k + ts.length < l.length → PX s l (k + ts.length) (f v (k + ts.length)) (fun w us => R w (ts ++ us))) : PX s l k (o.bind f) R := by
  cases o with
  | err p e => exact ⟨fun v k' e => (by cases e), fun p' x e => ho.2 p' x (by cases e; rfl)⟩
  | ok v k1 =>
    obtain ⟨hk, ts, hm, rfl, hq⟩ := ho.1 v k1 rfl
    obtain ⟨h1, h2⟩ := hf v ts hq hk
    refine ⟨fun w k' e => ?_, fun p x e => h2 p x e⟩
    obtain ⟨hk', us, hu, e', hr⟩ := h1 w k' e
    exact ⟨hk', ts ++ us, Mt.app.2 ⟨hm, hu⟩, by rw [List.length_append]; omega, hr⟩
omit h in
theorem PX.weak {α : Type} {k : Nat} {o : PO α} {Q R : α → List Tk → Prop} (ho : PX s l k o Q) (hw : ∀ v ts, Q v ts → R v ts) : PX s l k o R :=
  ⟨fun v k' e => by
    obtain ⟨a, ts, b, c, d⟩ := ho.1 v k' e
    exact ⟨a, ts, b, c, hw v ts d⟩, ho.2⟩
/-- A token, then more. -/
theorem WT.step {α : Type} {k : Nat} {w : ByteArray} {c : Tk} {o : PO α} {R : α → List Tk → Prop} (hk : k < l.length) (hi : isM l k w = true) (hc : tkAt l k = c) (ho : k + 1 < l.length → PX s l (k + 1) o (fun v us => R v (c :: us))) : PX s l k o R := by
  have hk1 := isM_next h.toked.ended hk hi
  obtain ⟨h1, h2⟩ := ho hk1
  refine ⟨fun v k' e => ?_, h2⟩
  obtain ⟨a, us, hu, e', hr⟩ := h1 v k' e
  exact ⟨a, c :: us, ⟨hc, hu⟩, by rw [List.length_cons]; omega, hr⟩
theorem WT.mustW {α : Type} {k : Nat} {w : ByteArray} (hw : letter (byteAt w 0) = true) {f : Unit → Nat → PO α} {R : α → List Tk → Prop} (hk : k < l.length) (hf : k + 1 < l.length → PX s l (k + 1) (f () (k + 1)) (fun v us => R v ((1, w) :: us))) : PX s l k ((mustM l k w).bind f) R := by
  unfold mustM
  split
  · rename_i hi
    exact h.step hk hi (wt_word h hi hw) hf
  · exact PX.bind (Q := fun _ _ => False) (h.fail k 4 (by decide) _) (fun _ _ hq => hq.elim)
theorem WT.mustS {α : Type} {k : Nat} {w : ByteArray} (hw : letter (byteAt w 0) = false) {f : Unit → Nat → PO α} {R : α → List Tk → Prop} (hk : k < l.length) (hf : k + 1 < l.length → PX s l (k + 1) (f () (k + 1)) (fun v us => R v ((3, w) :: us))) : PX s l k ((mustM l k w).bind f) R := by
  unfold mustM
  split
  · rename_i hi
    exact h.step hk hi (wt_sign h hi hw) hf
  · exact PX.bind (Q := fun _ _ => False) (h.fail k 4 (by decide) _) (fun _ _ hq => hq.elim)
theorem WT.name {k : Nat} (hk : k < l.length) : PX s l k (nameM l k) (fun v ts => isName v = true ∧ ts = [(1, v)]) := by
  unfold nameM
  split
  · rename_i hn
    refine ⟨fun v k' e => ?_, fun p x e => by cases e⟩
    cases e
    exact ⟨h.toked.ended k hk (by rw [hn.1]; decide), [(1, (tokAt l k).text)], ⟨by rw [tkAt, hn.1], trivial⟩, rfl, hn.2, rfl⟩
  · exact h.fail k 8 (by decide) _
theorem WT.num {k : Nat} (hk : k < l.length) : PX s l k (numM l k) (fun v ts => numOk v ∧ ts = [(2, numX v)]) := by
  by_cases h2 : (tokAt l k).kind = 2
  · have hn : numT (tokAt l k).text := by
      rcases h.tok k (by rw [h2]; decide) with ⟨e, _⟩ | ⟨_, g⟩ | ⟨e, _⟩
      · rw [h2] at e; exact absurd e (by decide)
      · exact g
      · rw [h2] at e; exact absurd e (by decide)
    obtain ⟨n, hn, ht⟩ := numT_inv hn
    have hm : tkAt l k = (2, numX n) := by rw [tkAt, h2, ht]
    rw [numM_tk hm hn]
    refine ⟨fun v k' e => ?_, fun p x e => by cases e⟩
    cases e
    exact ⟨h.toked.ended k hk (by rw [h2]; decide), [(2, numX n)], ⟨hm, trivial⟩, rfl, hn, rfl⟩
  · rw [numM, if_neg h2]; exact h.fail k 22 (by decide) _
theorem WT.len {k : Nat} (hk : k < l.length) : PX s l k (lenM l k) (fun v ts => numOk v ∧ ts = [(3, sBraL), (2, numX v), (3, sBraR)]) := by
  unfold lenM
  refine h.mustS (by decide +kernel) hk fun hk => (h.num hk).bind ?_
  rintro v ts ⟨hv, rfl⟩ hk
  exact h.mustS (by decide +kernel) hk fun hk => .ok hk ⟨hv, rfl⟩
theorem WT.fieldsGo {K : Nat → PO KT} {kk : Int} {d : Nat} (hK : ∀ k, k < l.length → PX s l k (K k) (fun t ts => PT d t ∧ ts = t.toks)) (hkk : kk ≠ 7) : ∀ (f k : Nat) (ns : List ByteArray) (ts : List KT), k < l.length → l.length ≤ f + k →
    PX s l k (Pv.fieldsGo K kk l f k ns ts) (fun v us => ∃ F : List (ByteArray × KT), F ≠ [] ∧ v = .mk kk 0 (ns ++ F.map (·.1)) (ts ++ F.map (·.2)) ∧ (∀ x ∈ F, isName x.1 = true ∧ PT d x.2) ∧ us = fldToks (F.map fun x => (x.1, (3, sColon) :: x.2.toks)) ++ [(3, sClose)])
  | 0, k, _, _, hk, hf => by omega
  | f + 1, k, ns, ts, hk, hf => by
    unfold Pv.fieldsGo
    refine (h.name hk).bind ?_
    rintro x us ⟨hx, rfl⟩ hk
    rw [if_neg hkk]
    refine PX.bind (Q := fun ts' us => ∃ t, PT d t ∧ ts' = ts ++ [t] ∧ us = (3, sColon) :: t.toks) ?_ ?_
    · refine h.mustS (by decide +kernel) hk fun hk => (hK _ hk).bind ?_
      rintro t us ⟨ht, rfl⟩ hk
      exact .ok hk ⟨t, ht, rfl, by rw [List.append_nil]⟩
    · rintro ts' us ⟨t, ht, rfl, rfl⟩ hk
      split
      · rename_i hi
        refine h.step hk hi (wt_sign h hi (by decide +kernel)) fun hk1 => (WT.fieldsGo hK hkk f _ _ _ hk1 (by simp only [List.length_cons, List.length_nil]; omega)).weak ?_
        rintro v us ⟨F, hF, rfl, hA, rfl⟩
        refine ⟨(x, t) :: F, by simp, by simp, ?_, ?_⟩
        · intro y hy
          rcases List.mem_cons.1 hy with rfl | hy
          · exact ⟨hx, ht⟩
          · exact hA y hy
        · cases F with
          | nil => exact absurd rfl hF
          | cons y F => simp [fldToks]
      · refine h.mustS (by decide +kernel) hk fun hk => .ok hk ?_
        refine ⟨[(x, t)], by simp, by simp, ?_, by simp [fldToks]⟩
        intro y hy
        rw [List.mem_singleton.1 hy]; exact ⟨hx, ht⟩
theorem WT.enumGo {K : Nat → PO KT} : ∀ (f k : Nat) (ns : List ByteArray), k < l.length → l.length ≤ f + k →
    PX s l k (Pv.fieldsGo K 7 l f k ns []) (fun v us => ∃ F : List ByteArray, F ≠ [] ∧ v = .mk 7 0 (ns ++ F) [] ∧ (∀ x ∈ F, isName x = true) ∧ us = fldToks (F.map fun x => (x, [])) ++ [(3, sClose)])
  | 0, k, _, hk, hf => by omega
  | f + 1, k, ns, hk, hf => by
    unfold Pv.fieldsGo
    refine (h.name hk).bind ?_
    rintro x us ⟨hx, rfl⟩ hk
    rw [if_pos rfl]
    refine PX.bind (Q := fun ts' us => ts' = [] ∧ us = []) (.ok hk ⟨rfl, rfl⟩) ?_
    · rintro ts' us ⟨rfl, rfl⟩ hk
      split
      · rename_i hi
        refine h.step hk hi (wt_sign h hi (by decide +kernel)) fun hk1 => (WT.enumGo f _ _ hk1 (by simp only [List.length_cons, List.length_nil]; omega)).weak ?_
        rintro v us ⟨F, hF, rfl, hA, rfl⟩
        refine ⟨x :: F, by simp, by simp, ?_, ?_⟩
        · intro y hy
          rcases List.mem_cons.1 hy with rfl | hy
          · exact hx
          · exact hA y hy
        · cases F with
          | nil => exact absurd rfl hF
          | cons y F => simp [fldToks]
      · refine h.mustS (by decide +kernel) hk fun hk => .ok hk ?_
        refine ⟨[x], by simp, by simp, ?_, by simp [fldToks]⟩
        intro y hy
        rw [List.mem_singleton.1 hy]; exact hx
theorem WT.fields {K : Nat → PO KT} {kk : Int} {d : Nat} (hK : ∀ k, k < l.length → PX s l k (K k) (fun t ts => PT d t ∧ ts = t.toks)) (hkk : kk = 6 ∨ kk = 8) {k : Nat} (hk : k < l.length) :
    PX s l k (fieldsM K kk l k) (fun t ts => PT (d + 1) t ∧ (1, if kk = 6 then kRecord else kChoice) :: ts = t.toks) := by
  unfold fieldsM
  refine h.mustS (by decide +kernel) hk fun hk => (WT.fieldsGo h hK (by omega) _ _ _ _ hk (by omega)).weak ?_
  rintro v us ⟨F, hF, rfl, hA, rfl⟩
  have hn : ∀ x ∈ F.map (·.1), isName x = true := fun x hx => by
    obtain ⟨y, hy, rfl⟩ := List.mem_map.1 hx; exact (hA y hy).1
  have ht : ∀ t ∈ F.map (·.2), PT d t := fun x hx => by
    obtain ⟨y, hy, rfl⟩ := List.mem_map.1 hx; exact (hA y hy).2
  have hz : (F.map (·.1)).zip ((KT.toksL (F.map (·.2))).map fun t => ((3, sColon) :: t : List Tk)) = F.map fun x => (x.1, (3, sColon) :: x.2.toks) := by
    rw [KT.toksL_map, List.map_map, List.map_map, List.zip_map', ]
    rfl
  refine ⟨.reco d kk _ _ hkk (by simp) (by simpa using hF) (by simpa using hn) (by simpa using ht), ?_⟩
  simp only [List.nil_append]
  rcases hkk with rfl | rfl
  · rw [KT.toks, if_neg (show ¬ (6 : Int) = 4 by decide), if_neg (show ¬ (6 : Int) = 5 by decide), if_pos rfl, hz, if_pos rfl]
  · rw [KT.toks, if_neg (show ¬ (8 : Int) = 4 by decide), if_neg (show ¬ (8 : Int) = 5 by decide), if_neg (show ¬ (8 : Int) = 6 by decide), if_pos rfl, hz, if_neg (show ¬ (8 : Int) = 6 by decide)]
theorem WT.kind : ∀ (d k : Nat), k < l.length → PX s l k (kindM l d k) (fun t ts => PT d t ∧ ts = t.toks)
  | 0, k, _ => h.fail k 5 (by decide) _
  | d + 1, k, hk => by
    have hK := WT.kind d
    unfold kindM
    have base : ∀ (n : Int) (w : ByteArray), 0 ≤ n ∧ n ≤ 3 → w = kw4 n → letter (byteAt w 0) = true → isM l k w = true → PX s l k (.ok (.mk n 0 [] []) (k + 1)) (fun t ts => PT (d + 1) t ∧ ts = t.toks) := by
      intro n w hn hw hl hi
      refine h.step hk hi (wt_word h hi hl) fun hk => .ok hk ⟨.base d n hn, ?_⟩
      rw [KT.toks, if_neg (by omega), if_neg (by omega), if_neg (by omega), if_neg (by omega), if_neg (by omega), if_neg (by omega), hw]
    split
    · exact base 0 (bs [98, 111, 111, 108]) (by decide) (by decide +kernel) (by decide +kernel) ‹_›
    split
    · exact base 1 (bs [99, 97, 114, 100]) (by decide) (by decide +kernel) (by decide +kernel) ‹_›
    split
    · exact base 2 (bs [108, 111, 110, 103]) (by decide) (by decide +kernel) (by decide +kernel) ‹_›
    split
    · exact base 3 (bs [114, 101, 97, 108]) (by decide) (by decide +kernel) (by decide +kernel) ‹_›
    split
    · rename_i hi
      refine h.step hk hi (wt_word h hi (by decide +kernel)) fun hk => (h.len hk).bind ?_
      rintro n us ⟨hn, rfl⟩ hk
      exact .ok hk ⟨.text d n hn, by rw [KT.toks, if_pos rfl]; rfl⟩
    split
    · rename_i hi
      refine h.step hk hi (wt_word h hi (by decide +kernel)) fun hk => (h.len hk).bind ?_
      rintro n us ⟨hn, rfl⟩ hk
      refine h.mustW (by decide +kernel) hk fun hk => (hK _ hk).bind ?_
      rintro t us ⟨ht, rfl⟩ hk
      exact .ok hk ⟨.seq d n t hn ht, by rw [KT.toks, if_neg (by decide), if_pos rfl]; simp [KT.toksL]⟩
    split
    · rename_i hi
      exact h.step hk hi (wt_word h hi (by decide +kernel)) fun hk => h.fields hK (.inl rfl) hk
    split
    · rename_i hi
      refine h.step hk hi (wt_word h hi (by decide +kernel)) fun hk => ?_
      unfold fieldsM
      refine h.mustS (by decide +kernel) hk fun hk => (WT.enumGo h _ _ _ hk (by omega)).weak ?_
      rintro v us ⟨F, hF, rfl, hA, rfl⟩
      refine ⟨.enum d _ (by simpa using hF) (by simpa using hA), ?_⟩
      rw [KT.toks, if_neg (by decide), if_neg (by decide), if_neg (by decide), if_neg (by decide), if_pos rfl]
      rfl
    split
    · rename_i hi
      exact h.step hk hi (wt_word h hi (by decide +kernel)) fun hk => h.fields hK (.inr rfl) hk
    · refine (h.name hk).bind ?_
      rintro x us ⟨hx, rfl⟩ hk
      exact .ok hk ⟨.ref d x hx, by rw [KT.toks, if_neg (by decide), if_neg (by decide), if_neg (by decide), if_neg (by decide), if_neg (by decide), if_pos rfl]; rfl⟩
theorem WT.col {k : Nat} (hk : k < l.length) : PX s l k (colM l k) (fun c ts => (0 ≤ c ∧ c ≤ 2) ∧ ts = [(1, colX c)]) := by
  unfold colM
  split
  · rename_i hi
    exact h.step hk hi (wt_word h hi (by decide +kernel)) fun hk => .ok hk ⟨by decide, by decide +kernel⟩
  split
  · rename_i hi
    exact h.step hk hi (wt_word h hi (by decide +kernel)) fun hk => .ok hk ⟨by decide, by decide +kernel⟩
  · exact h.mustW (by decide +kernel) hk fun hk => .ok hk ⟨by decide, by decide +kernel⟩
def pcOk (p : Pc) : Prop := isName p.name = true ∧ numOk p.number ∧ PT 5 p.takes ∧ PT 5 p.answers ∧ (0 ≤ p.collate ∧ p.collate ≤ 2) ∧ numOk p.timeout
theorem WT.proc {k : Nat} (hk : k < l.length) : PX s l k (procM l k) (fun p ts => pcOk p ∧ (1, kProc) :: ts = pcTk p) := by
  unfold procM procEnd
  refine (h.name hk).bind ?_
  rintro x us ⟨hx, rfl⟩ hk
  refine h.mustS (by decide +kernel) hk fun hk => (h.num hk).bind ?_
  rintro n us ⟨hn, rfl⟩ hk
  refine h.mustS (by decide +kernel) hk fun hk => (h.kind 5 _ hk).bind ?_
  rintro t us ⟨ht, rfl⟩ hk
  refine h.mustS (by decide +kernel) hk fun hk => h.mustW (by decide +kernel) hk fun hk => (h.kind 5 _ hk).bind ?_
  rintro a us ⟨ha, rfl⟩ hk
  refine h.mustW (by decide +kernel) hk fun hk => (h.col hk).bind ?_
  rintro c us ⟨hc, rfl⟩ hk
  refine h.mustW (by decide +kernel) hk fun hk => (h.num hk).bind ?_
  rintro o us ⟨ho, rfl⟩ hk
  exact h.mustS (by decide +kernel) hk fun hk => .ok hk ⟨⟨hx, hn, ht, ha, hc, ho⟩, by simp [pcTk]⟩
theorem WT.types : ∀ (f k : Nat) (a : List Al), k < l.length → l.length ≤ f + k → PX s l k (typesGo l f k a) (fun v ts => ∃ as : List Al, v = a ++ as ∧ (∀ x ∈ as, isName x.name = true ∧ PT 5 x.ty) ∧ ts = as.flatMap alTk)
  | 0, k, _, hk, hf => by omega
  | f + 1, k, a, hk, hf => by
    unfold typesGo
    split
    · rename_i hi
      refine h.step hk hi (wt_word h hi (by decide +kernel)) fun hk => (h.name hk).bind ?_
      rintro x us ⟨hx, rfl⟩ hk
      refine h.mustS (by decide +kernel) hk fun hk => (h.kind 5 _ hk).bind ?_
      rintro t us ⟨ht, rfl⟩ hk
      refine h.mustS (by decide +kernel) hk fun hk => (WT.types f _ _ hk (by omega)).weak ?_
      rintro v us ⟨as, rfl, hA, rfl⟩
      refine ⟨⟨x, t⟩ :: as, by simp, ?_, by simp [alTk]⟩
      intro y hy
      rcases List.mem_cons.1 hy with rfl | hy
      · exact ⟨hx, ht⟩
      · exact hA y hy
    · exact .ok hk ⟨[], by simp, fun _ h => (by cases h), rfl⟩
theorem WT.faults : ∀ (f k : Nat) (a : List Fl), k < l.length → l.length ≤ f + k → PX s l k (faultsGo l f k a) (fun v ts => ∃ as : List Fl, v = a ++ as ∧ (∀ x ∈ as, isName x.name = true ∧ numOk x.number) ∧ ts = as.flatMap flTk)
  | 0, k, _, hk, hf => by omega
  | f + 1, k, a, hk, hf => by
    unfold faultsGo
    split
    · rename_i hi
      refine h.step hk hi (wt_word h hi (by decide +kernel)) fun hk => (h.name hk).bind ?_
      rintro x us ⟨hx, rfl⟩ hk
      refine h.mustS (by decide +kernel) hk fun hk => (h.num hk).bind ?_
      rintro t us ⟨ht, rfl⟩ hk
      refine h.mustS (by decide +kernel) hk fun hk => (WT.faults f _ _ hk (by omega)).weak ?_
      rintro v us ⟨as, rfl, hA, rfl⟩
      refine ⟨⟨x, t⟩ :: as, by simp, ?_, by simp [flTk]⟩
      intro y hy
      rcases List.mem_cons.1 hy with rfl | hy
      · exact ⟨hx, ht⟩
      · exact hA y hy
    · exact .ok hk ⟨[], by simp, fun _ h => (by cases h), rfl⟩
theorem WT.procs : ∀ (f k : Nat) (a : List Pc), k < l.length → l.length ≤ f + k → PX s l k (procsGo l f k a) (fun v ts => ∃ as : List Pc, v = a ++ as ∧ (∀ x ∈ as, pcOk x) ∧ ts = as.flatMap pcTk)
  | 0, k, _, hk, hf => by omega
  | f + 1, k, a, hk, hf => by
    unfold procsGo
    split
    · rename_i hi
      refine h.step hk hi (wt_word h hi (by decide +kernel)) fun hk => (h.proc hk).bind ?_
      rintro x us ⟨hx, e⟩ hk
      refine (WT.procs f _ _ hk (by omega)).weak ?_
      rintro v us ⟨as, rfl, hA, rfl⟩
      refine ⟨x :: as, by simp, ?_, by rw [List.flatMap_cons, ← e]; rfl⟩
      intro y hy
      rcases List.mem_cons.1 hy with rfl | hy
      · exact hx
      · exact hA y hy
    · exact .ok hk ⟨[], by simp, fun _ h => (by cases h), rfl⟩
/-- A table, read. -/
theorem WT.table (hk : 0 < l.length) : PX s l 0 (tableM l 0) (fun t ts => PTB t ∧ ts = t.toks ∧ (tokAt l ts.length).kind = 0) := by
  unfold tableM
  refine h.mustW (by decide +kernel) hk fun hk => (h.name hk).bind ?_
  rintro x us ⟨hx, rfl⟩ hk
  refine (h.num hk).bind ?_
  rintro n us ⟨hn, rfl⟩ hk
  refine h.mustW (by decide +kernel) hk fun hk => (h.num hk).bind ?_
  rintro v us ⟨hv, rfl⟩ hk
  refine h.mustS (by decide +kernel) hk fun hk => (h.types _ _ [] hk (by omega)).bind ?_
  rintro A us ⟨as, rfl, hA, rfl⟩ hk
  refine (h.faults _ _ [] hk (by omega)).bind ?_
  rintro F us ⟨fs, rfl, hF, rfl⟩ hk
  refine (h.procs _ _ [] hk (by omega)).bind ?_
  rintro P us ⟨ps, rfl, hP, rfl⟩ hk
  refine PX.bind (Q := fun _ ts => ts = [(3, sClose)] ∧ (tokAt l (0 + 1 + [((1, x) : Tk)].length + [((2, numX n) : Tk)].length + 1 + [((2, numX v) : Tk)].length + 1 + (A.flatMap alTk).length + (F.flatMap flTk).length + (P.flatMap pcTk).length + 1)).kind = 0) ?_ ?_
  · unfold endM
    refine h.mustS (by decide +kernel) hk fun hk => ?_
    split
    · rename_i h0
      exact .ok hk ⟨rfl, h0⟩
    · exact h.fail _ 12 (by decide) _
  · rintro _ us ⟨rfl, h0⟩ hk
    refine .ok hk ⟨⟨hx, hn, hv, by simpa using hA, by simpa using hF, by simpa [pcOk] using hP⟩, by simp [TB.toks], ?_⟩
    rw [← h0]
    congr 2
    simp only [List.length_cons, List.length_append, List.length_nil]; omega
end
end Go.Pv
