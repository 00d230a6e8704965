/- A procedure, read. No condition. -/
import Derived.Test.YtdggkhnelmonkaaDoorF3
import Derived.Test.YtdggkhnelmonkaaDoorD6
import Derived.Test.YtdggkhnelmonkaaDoorD1
namespace Go.Pv
set_option maxRecDepth 100000
def colM (l : List LTok) (k : Nat) : PO Int :=
  if isM l k (bs [102, 105, 114, 115, 116]) = true then .ok 0 (k + 1)
  else if isM l k (bs [109, 97, 106, 111, 114, 105, 116, 121]) = true then .ok 1 (k + 1)
  else (mustM l k (bs [97, 108, 108])).bind fun _ k => .ok 2 k
theorem colM_in {l : List LTok} {k : Nat} (he : Ended l) (hk : k < l.length) : POin l (colM l k) := by
  unfold colM
  split
  · exact .ok (isM_next he hk ‹_›)
  split
  · exact .ok (isM_next he hk ‹_›)
  exact (mustM_in he hk).bind fun _ _ h => .ok h
def procEnd (l : List LTok) (s : ByteArray) (n : Int) (t a : KT) (c : Int) (k : Nat) : PO Pc :=
  (mustM l k (bs [116, 105, 109, 101, 111, 117, 116])).bind fun _ k =>
  (numM l k).bind fun o k => (mustM l k (bs [59])).bind fun _ k => .ok ⟨s, n, t, a, c, o⟩ k
def procM (l : List LTok) (k : Nat) : PO Pc :=
  (nameM l k).bind fun s k => (mustM l k (bs [61])).bind fun _ k => (numM l k).bind fun n k =>
  (mustM l k (bs [40])).bind fun _ k => (kindM l 5 k).bind fun t k => (mustM l k (bs [41])).bind fun _ k =>
  (mustM l k (bs [114, 101, 116, 117, 114, 110, 115])).bind fun _ k => (kindM l 5 k).bind fun a k =>
  (mustM l k (bs [99, 111, 108, 108, 97, 116, 101])).bind fun _ k => (colM l k).bind fun c k => procEnd l s n t a c k
end Go.Pv
/- Types that are read go on in the tokens; a procedure, and a whole table, in plain words. No condition. -/
namespace Go.Pv
set_option maxRecDepth 100000
theorem fieldsGo_in {K : Nat → PO KT} {kk : Int} {l : List LTok} (he : Ended l) (hK : ∀ k, k < l.length → POin l (K k)) : ∀ (f k : Nat) (ns : List ByteArray) (ts : List KT), k < l.length → POin l (fieldsGo K kk l f k ns ts)
  | 0, _, _, _, _ => failM_in _ _ _
  | f + 1, k, ns, ts, hk => by
    unfold fieldsGo
    refine (nameM_in he hk).bind fun s k1 h1 => ?_
    refine POin.bind ?_ fun ts k2 h2 => ?_
    · split
      · exact .ok h1
      · exact (mustM_in he h1).bind fun _ _ h2 => (hK _ h2).bind fun _ _ h3 => .ok h3
    · split
      · exact fieldsGo_in he hK f _ _ _ (isM_next he h2 ‹_›)
      · exact (mustM_in he h2).bind fun _ _ h3 => .ok h3
theorem fieldsM_in {K : Nat → PO KT} {kk : Int} {l : List LTok} {k : Nat} (he : Ended l) (hK : ∀ k, k < l.length → POin l (K k)) (hk : k < l.length) : POin l (fieldsM K kk l k) :=
  (mustM_in he hk).bind fun _ _ h => fieldsGo_in he hK _ _ _ _ h
theorem kindM_in {l : List LTok} (he : Ended l) : ∀ (d k : Nat), k < l.length → POin l (kindM l d k)
  | 0, _, _ => failM_in _ _ _
  | d + 1, k, hk => by
    unfold kindM
    split
    · exact .ok (isM_next he hk ‹_›)
    split
    · exact .ok (isM_next he hk ‹_›)
    split
    · exact .ok (isM_next he hk ‹_›)
    split
    · exact .ok (isM_next he hk ‹_›)
    split
    · exact (lenM_in he (isM_next he hk ‹_›)).bind fun _ _ h => .ok h
    split
    · exact (lenM_in he (isM_next he hk ‹_›)).bind fun _ _ h => (mustM_in he h).bind fun _ _ h => (kindM_in he d _ h).bind fun _ _ h => .ok h
    split
    · exact fieldsM_in he (fun k h => kindM_in he d k h) (isM_next he hk ‹_›)
    split
    · exact fieldsM_in he (fun k h => kindM_in he d k h) (isM_next he hk ‹_›)
    split
    · exact fieldsM_in he (fun k h => kindM_in he d k h) (isM_next he hk ‹_›)
    exact (nameM_in he hk).bind fun _ _ h => .ok h
theorem procM_in {l : List LTok} {k : Nat} (he : Ended l) (hk : k < l.length) : POin l (procM l k) :=
  (nameM_in he hk).bind fun _ _ h => (mustM_in he h).bind fun _ _ h => (numM_in he h).bind fun _ _ h => (mustM_in he h).bind fun _ _ h =>
  (kindM_in he 5 _ h).bind fun _ _ h => (mustM_in he h).bind fun _ _ h => (mustM_in he h).bind fun _ _ h => (kindM_in he 5 _ h).bind fun _ _ h =>
  (mustM_in he h).bind fun _ _ h => (colM_in he h).bind fun _ _ h => (mustM_in he h).bind fun _ _ h => (numM_in he h).bind fun _ _ h => (mustM_in he h).bind fun _ _ h => .ok h
/-- Aliases, errors, procedures, one behind the other. -/
def typesGo (l : List LTok) : Nat → Nat → List Al → PO (List Al)
  | 0, k, _ => failM l k 0
  | f + 1, k, a => if isM l k (bs [116, 121, 112, 101]) = true then
      (nameM l (k + 1)).bind fun s k => (mustM l k (bs [61])).bind fun _ k => (kindM l 5 k).bind fun t k => (mustM l k (bs [59])).bind fun _ k => typesGo l f k (a ++ [⟨s, t⟩])
    else .ok a k
def faultsGo (l : List LTok) : Nat → Nat → List Fl → PO (List Fl)
  | 0, k, _ => failM l k 0
  | f + 1, k, a => if isM l k (bs [101, 114, 114, 111, 114]) = true then
      (nameM l (k + 1)).bind fun s k => (mustM l k (bs [61])).bind fun _ k => (numM l k).bind fun n k => (mustM l k (bs [59])).bind fun _ k => faultsGo l f k (a ++ [⟨s, n⟩])
    else .ok a k
def procsGo (l : List LTok) : Nat → Nat → List Pc → PO (List Pc)
  | 0, k, _ => failM l k 0
  | f + 1, k, a => if isM l k (bs [112, 114, 111, 99]) = true then (procM l (k + 1)).bind fun p k => procsGo l f k (a ++ [p]) else .ok a k
def endM (l : List LTok) (k : Nat) : PO Unit := (mustM l k (bs [125])).bind fun _ k => if (tokAt l k).kind = 0 then .ok () k else failM l k 12
end Go.Pv
/- What is read stands behind where it began. No condition. -/
namespace Go.Pv
set_option maxRecDepth 100000
def POge {α : Type} (k0 : Nat) (o : PO α) : Prop := ∀ v k, o = .ok v k → k0 ≤ k
theorem POge.bind {α β : Type} {k0 : Nat} {o : PO α} {f : α → Nat → PO β} (h : POge k0 o) (hf : ∀ v k, k0 ≤ k → POge k0 (f v k)) : POge k0 (o.bind f) := by
  cases o with
  | err p e => intro v k h; cases h
  | ok v k => exact hf v k (h v k rfl)
theorem POge.ok {α : Type} {k0 : Nat} {v : α} {k : Nat} (h : k0 ≤ k) : POge k0 (.ok v k) := by
  intro v k h; cases h; assumption
theorem POge.le {α : Type} {k0 k1 : Nat} {o : PO α} (h : POge k1 o) (hk : k0 ≤ k1) : POge k0 o := fun v k e => Nat.le_trans hk (h v k e)
theorem failM_ge {α : Type} (l : List LTok) (k : Nat) (e : Int) (k0 : Nat) : POge k0 (failM (α := α) l k e) := by intro v k h; cases h
theorem mustM_ge {l : List LTok} {k : Nat} {w : ByteArray} : POge (k + 1) (mustM l k w) := by
  unfold mustM
  split
  · exact .ok (Nat.le_refl _)
  · exact failM_ge _ _ _ _
theorem nameM_ge {l : List LTok} {k : Nat} : POge (k + 1) (nameM l k) := by
  unfold nameM
  split
  · exact .ok (Nat.le_refl _)
  · exact failM_ge _ _ _ _
theorem numM_ge {l : List LTok} {k : Nat} : POge (k + 1) (numM l k) := by
  unfold numM
  split
  · exact .ok (Nat.le_refl _)
  · exact failM_ge _ _ _ _
theorem lenM_ge {l : List LTok} {k : Nat} : POge (k + 1) (lenM l k) :=
  mustM_ge.bind fun _ _ h1 => (numM_ge.le (by omega)).bind fun _ _ h2 => (mustM_ge.le (by omega)).bind fun _ _ h3 => .ok (by omega)
theorem fieldsGo_ge {K : Nat → PO KT} {kk : Int} {l : List LTok} (hK : ∀ k, POge k (K k)) : ∀ (f k : Nat) (ns : List ByteArray) (ts : List KT), POge (k + 1) (fieldsGo K kk l f k ns ts)
  | 0, _, _, _ => failM_ge _ _ _ _
  | f + 1, k, ns, ts => by
    unfold fieldsGo
    refine nameM_ge.bind fun s k1 h1 => ?_
    refine POge.bind ?_ fun ts k2 h2 => ?_
    · split
      · exact .ok h1
      · exact (mustM_ge.le (by omega)).bind fun _ _ h2 => ((hK _).le (by omega)).bind fun _ _ h3 => .ok (by omega)
    · split
      · exact (fieldsGo_ge hK f _ _ _).le (by omega)
      · exact (mustM_ge.le (by omega)).bind fun _ _ h3 => .ok (by omega)
theorem fieldsM_ge {K : Nat → PO KT} {kk : Int} {l : List LTok} {k : Nat} (hK : ∀ k, POge k (K k)) : POge k (fieldsM K kk l k) :=
  (mustM_ge.le (by omega)).bind fun _ _ h => (fieldsGo_ge hK _ _ _ _).le (by omega)
theorem kindM_ge {l : List LTok} : ∀ (d k : Nat), POge (k + 1) (kindM l d k)
  | 0, _ => failM_ge _ _ _ _
  | d + 1, k => by
    have hd : ∀ k, POge k (kindM l d k) := fun k => (kindM_ge d k).le (by omega)
    unfold kindM
    split
    · exact .ok (by omega)
    split
    · exact .ok (by omega)
    split
    · exact .ok (by omega)
    split
    · exact .ok (by omega)
    split
    · exact (lenM_ge.le (by omega)).bind fun _ _ h => .ok h
    split
    · exact (lenM_ge.le (by omega)).bind fun _ _ h => (mustM_ge.le (by omega)).bind fun _ _ h => ((hd _).le (by omega)).bind fun _ _ h => .ok h
    split
    · exact fieldsM_ge hd
    split
    · exact fieldsM_ge hd
    split
    · exact fieldsM_ge hd
    exact nameM_ge.bind fun _ _ h => .ok h
theorem procM_ge {l : List LTok} {k : Nat} : POge (k + 1) (procM l k) :=
  nameM_ge.bind fun _ _ h => (mustM_ge.le (by omega)).bind fun _ _ h => (numM_ge.le (by omega)).bind fun _ _ h => (mustM_ge.le (by omega)).bind fun _ _ h =>
  ((kindM_ge 5 _).le (by omega)).bind fun _ _ h => (mustM_ge.le (by omega)).bind fun _ _ h => (mustM_ge.le (by omega)).bind fun _ _ h => ((kindM_ge 5 _).le (by omega)).bind fun _ _ h =>
  (mustM_ge.le (by omega)).bind fun _ _ h => (by
    unfold colM
    split
    · exact .ok (by omega)
    split
    · exact .ok (by omega)
    exact (mustM_ge.le (by omega)).bind fun _ _ h => .ok h : POge (k + 1) (colM l _)).bind fun _ _ h => (mustM_ge.le (by omega)).bind fun _ _ h => (numM_ge.le (by omega)).bind fun _ _ h => (mustM_ge.le (by omega)).bind fun _ _ h => .ok h
end Go.Pv
/- A whole table, read. No condition. -/
namespace Go.Pv
set_option maxRecDepth 100000
def tableM (l : List LTok) (k : Nat) : PO TB :=
  (mustM l k (bs [112, 114, 111, 103, 114, 97, 109])).bind fun _ k => (nameM l k).bind fun s k => (numM l k).bind fun n k =>
  (mustM l k (bs [118, 101, 114, 115, 105, 111, 110])).bind fun _ k => (numM l k).bind fun v k => (mustM l k (bs [123])).bind fun _ k =>
  (typesGo l (l.length - k) k []).bind fun a k => (faultsGo l (l.length - k) k []).bind fun f k => (procsGo l (l.length - k) k []).bind fun p k =>
  (endM l k).bind fun _ k => .ok ⟨s, n, v, a, f, p⟩ k
end Go.Pv
/- What is lexed and read is small. No condition. -/
namespace Go.Pv
set_option maxRecDepth 100000
def LTok.good (s : ByteArray) (x : LTok) : Prop := x.kind ≠ 0 ∧ x.text.size ≤ s.size ∧ x.pos < s.size
theorem lexGo_all (s : ByteArray) : ∀ (f i : Nat) (out l : List LTok), lexGo s f i out = .ok l → i ≤ s.size → (∀ x ∈ out, x.good s) → out.length ≤ i → (∀ x ∈ l, x.good s) ∧ l.length ≤ s.size
  | 0, i, out, l, h, hi, ho, hl => by cases h; exact ⟨ho, by omega⟩
  | f + 1, i, out, l, h, hi, ho, hl => by
    rw [lexGo] at h
    split at h
    rotate_left
    · cases h; exact ⟨ho, by omega⟩
    rename_i hlt
    have add : ∀ (k : Int) (j : Nat), k ≠ 0 → ∀ x ∈ out ++ [(⟨k, i, s.extract i j⟩ : LTok)], x.good s := by
      intro k j hk x hx
      rcases List.mem_append.1 hx with hx | hx
      · exact ho x hx
      · rw [List.mem_singleton.1 hx]
        exact ⟨hk, by simp only [ByteArray.size_extract]; omega, hlt⟩
    split at h
    · exact lexGo_all s f _ _ _ h (by omega) ho (by omega)
    split at h
    · have := spanB_le restB s hi
      exact lexGo_all s f _ _ _ h this.2 ho (by omega)
    split at h
    · rename_i hc
      have h1 := spanB_le wordB s hi
      have h2 : i + 1 ≤ spanB wordB s i := spanB_pos hlt (by rw [wordB, hc]; rfl)
      exact lexGo_all s f _ _ _ h h1.2 (add 1 _ (by decide)) (by simp; omega)
    split at h
    · rename_i hc
      split at h
      · cases h
      have h1 := spanB_le digit s hi
      have h2 : i + 1 ≤ spanB digit s i := spanB_pos hlt hc
      exact lexGo_all s f _ _ _ h h1.2 (add 2 _ (by decide)) (by simp; omega)
    split at h
    · exact lexGo_all s f _ _ _ h (by omega) (add 3 _ (by decide)) (by simp; omega)
    · cases h
/-- A text's tokens: few, small, an end behind them. -/
structure Toked (l : List LTok) : Prop where
  pos : 0 < l.length
  few : l.length < 2 ^ 30
  small : ∀ x ∈ l, x.text.size < 2 ^ 40
  ended : Ended l
theorem lexM_ok {s : ByteArray} {l : List LTok} (h : lexM s = .ok l) : s.size ≤ 4000 ∧ ∃ out, lexGo s (s.size + 1) 0 [] = .ok out ∧ l = out ++ [⟨0, s.size, bs []⟩] := by
  unfold lexM at h
  split at h
  · cases h
  rename_i hs
  cases ho : lexGo s (s.size + 1) 0 [] with
  | ok out => rw [ho] at h; cases h; exact ⟨by omega, out, rfl, rfl⟩
  | bad p e => rw [ho] at h; cases h
theorem lexM_toked {s : ByteArray} {l : List LTok} (h : lexM s = .ok l) : Toked l := by
  obtain ⟨hs, out, ho, rfl⟩ := lexM_ok h
  obtain ⟨h1, h2⟩ := lexGo_all s _ _ _ _ ho (Nat.zero_le _) (fun _ h => by cases h) (Nat.zero_le _)
  refine ⟨by simp, by simp; omega, ?_, ?_⟩
  · intro x hx
    rcases List.mem_append.1 hx with hx | hx
    · have := (h1 x hx).2.1; omega
    · rw [List.mem_singleton.1 hx]; show (0 : Nat) < _; decide
  · intro k hk hne
    rw [List.length_append, List.length_singleton] at hk ⊢
    rcases (by omega : k < out.length ∨ k = out.length) with hk | rfl
    · omega
    · exact absurd (by rw [tokAt, List.getD_eq_getElem?_getD, List.getElem?_append_right (Nat.le_refl _), Nat.sub_self]; rfl) hne
theorem tok_small {l : List LTok} (hl : Toked l) {k : Nat} : (tokAt l k).text.size < 2 ^ 40 := by
  rw [tokAt, List.getD_eq_getElem?_getD]
  cases h : l[k]? with
  | none => show (0 : Nat) < _; decide
  | some x => exact hl.small x (List.mem_of_getElem? h)
/-- What stands in a value that is read. -/
def PQ {α : Type} (Q : α → Prop) (o : PO α) : Prop := ∀ v k, o = .ok v k → Q v
theorem PQ.bind {α β : Type} {P : α → Nat → Prop} {Q : β → Prop} {o : PO α} {f : α → Nat → PO β} (h : ∀ v k, o = .ok v k → P v k) (hf : ∀ v k, P v k → PQ Q (f v k)) : PQ Q (o.bind f) := by
  cases o with
  | err p e => intro v k h; cases h
  | ok v k => exact hf v k (h v k rfl)
theorem PQ.ok {α : Type} {Q : α → Prop} {v : α} {k : Nat} (h : Q v) : PQ Q (.ok v k) := by
  intro v k h; cases h; assumption
theorem PQ.fail {α : Type} {Q : α → Prop} {l : List LTok} {k : Nat} {e : Int} : PQ Q (failM (α := α) l k e) := by intro v k h; cases h
theorem nameM_q {l : List LTok} (hl : Toked l) {k : Nat} (hk : k < l.length) : ∀ v k', nameM l k = .ok v k' → v.size < 2 ^ 40 ∧ k' < l.length ∧ k' = k + 1 := by
  intro v k' h
  have h2 := nameM_in hl.ended hk v k' h
  unfold nameM at h
  split at h
  · cases h; exact ⟨tok_small hl, h2, rfl⟩
  · cases h
theorem ktFits_of {l : List KT} (h : ∀ t ∈ l, t.fit) : KT.fits l := by
  induction l with
  | nil => trivial
  | cons t l ih => exact ⟨h t List.mem_cons_self, ih fun u hu => h u (List.mem_cons_of_mem _ hu)⟩
theorem fieldsGo_fit {K : Nat → PO KT} {kk : Int} {l : List LTok} (hl : Toked l) (hK : ∀ k, k < l.length → POin l (K k)) (hG : ∀ k, POge k (K k)) (hQ : ∀ k, k < l.length → PQ KT.fit (K k)) : ∀ (f k : Nat) (ns : List ByteArray) (ts : List KT), k < l.length → ns.length ≤ k → ts.length ≤ k → (∀ n ∈ ns, n.size < 2 ^ 60) → (∀ t ∈ ts, t.fit) → PQ KT.fit (fieldsGo K kk l f k ns ts)
  | 0, _, _, _, _, _, _, _, _ => .fail
  | f + 1, k, ns, ts, hk, h1, h2, h3, h4 => by
    unfold fieldsGo
    refine PQ.bind (nameM_q hl hk) fun s k1 ⟨hs, hk1, e1⟩ => ?_
    refine PQ.bind (P := fun ts' k2 => k2 < l.length ∧ k1 ≤ k2 ∧ ts'.length ≤ k2 ∧ ∀ t ∈ ts', t.fit) ?_ fun ts' k2 ⟨hk2, g2, h2, h4⟩ => ?_
    · split
      · intro v k h; cases h; exact ⟨hk1, Nat.le_refl _, by omega, h4⟩
      · intro v k h
        cases h5 : mustM l k1 (bs [58]) with
        | err p e => rw [h5] at h; cases h
        | ok u k3 =>
          rw [PO.ok_bind h5] at h
          have hk3 := mustM_in hl.ended hk1 _ _ h5
          have g3 := mustM_ge _ _ h5
          cases h6 : K k3 with
          | err p e => rw [h6] at h; cases h
          | ok t k4 =>
            rw [PO.ok_bind h6] at h
            cases h
            have hk4 := hK k3 hk3 _ _ h6
            have g4 := hG k3 _ _ h6
            refine ⟨hk4, by omega, by simp; omega, fun x hx => ?_⟩
            rcases List.mem_append.1 hx with hx | hx
            · exact h4 x hx
            · rw [List.mem_singleton.1 hx]; exact hQ k3 hk3 _ _ h6
    · have h3' : ∀ n ∈ ns ++ [s], n.size < 2 ^ 60 := fun x hx => by
        rcases List.mem_append.1 hx with hx | hx
        · exact h3 x hx
        · rw [List.mem_singleton.1 hx]; omega
      split
      · exact fieldsGo_fit hl hK hG hQ f (k2 + 1) _ _ (isM_next hl.ended hk2 ‹_›) (by simp; omega) (by omega) h3' h4
      · refine PQ.bind (P := fun _ _ => True) (fun _ _ _ => trivial) fun _ _ _ => .ok ⟨⟨by have := hl.few; simp; omega, h3'⟩, by have := hl.few; omega, ktFits_of h4⟩
theorem fieldsM_fit {K : Nat → PO KT} {kk : Int} {l : List LTok} (hl : Toked l) (hK : ∀ k, k < l.length → POin l (K k)) (hG : ∀ k, POge k (K k)) (hQ : ∀ k, k < l.length → PQ KT.fit (K k)) {k : Nat} (hk : k < l.length) : PQ KT.fit (fieldsM K kk l k) :=
  PQ.bind (fun _ _ h => mustM_in hl.ended hk _ _ h) fun _ _ h => fieldsGo_fit hl hK hG hQ _ _ _ _ h (Nat.zero_le _) (Nat.zero_le _) (fun _ h => by cases h) (fun _ h => by cases h)
theorem kindM_fit {l : List LTok} (hl : Toked l) : ∀ (d k : Nat), k < l.length → PQ KT.fit (kindM l d k)
  | 0, _, _ => .fail
  | d + 1, k, hk => by
    have hK := kindM_in hl.ended d
    have hG : ∀ k, POge k (kindM l d k) := fun k => (kindM_ge d k).le (by omega)
    have hQ := kindM_fit hl d
    have fit0 : ∀ k m, (KT.mk k m [] []).fit := fun k m => ⟨⟨by decide, fun _ h => by cases h⟩, by decide, trivial⟩
    unfold kindM
    split
    · exact .ok (fit0 _ _)
    split
    · exact .ok (fit0 _ _)
    split
    · exact .ok (fit0 _ _)
    split
    · exact .ok (fit0 _ _)
    split
    · exact PQ.bind (P := fun _ _ => True) (fun _ _ _ => trivial) fun _ _ _ => .ok (fit0 _ _)
    split
    · rename_i hm
      refine PQ.bind (fun _ _ h => lenM_in hl.ended (isM_next hl.ended hk hm) _ _ h) fun n k1 h1 => PQ.bind (fun _ _ h => mustM_in hl.ended h1 _ _ h) fun _ k2 h2 => ?_
      exact PQ.bind (P := fun t _ => t.fit) (fun _ _ h => hQ k2 h2 _ _ h) fun t _ ht => .ok ⟨⟨by decide, fun _ h => by cases h⟩, (by show (1 : Nat) < _; decide), ht, trivial⟩
    split
    · exact fieldsM_fit hl hK hG hQ (isM_next hl.ended hk ‹_›)
    split
    · exact fieldsM_fit hl hK hG hQ (isM_next hl.ended hk ‹_›)
    split
    · exact fieldsM_fit hl hK hG hQ (isM_next hl.ended hk ‹_›)
    refine PQ.bind (nameM_q hl hk) fun s k1 ⟨hs, _, _⟩ => .ok ⟨⟨(by show (1 : Nat) < _; decide), fun x hx => ?_⟩, by decide, trivial⟩
    rw [List.mem_singleton.1 hx]; omega
def Pc.fit (p : Pc) : Prop := p.name.size < 2 ^ 60 ∧ p.takes.fit ∧ p.answers.fit
def Al.fit (a : Al) : Prop := a.name.size < 2 ^ 60 ∧ a.ty.fit
theorem procM_fit {l : List LTok} (hl : Toked l) {k : Nat} (hk : k < l.length) : PQ Pc.fit (procM l k) := by
  have he := hl.ended
  refine PQ.bind (nameM_q hl hk) fun s k1 ⟨hs, h1, _⟩ => PQ.bind (fun _ _ h => mustM_in he h1 _ _ h) fun _ _ h2 => PQ.bind (fun _ _ h => numM_in he h2 _ _ h) fun _ _ h3 => PQ.bind (fun _ _ h => mustM_in he h3 _ _ h) fun _ k4 h4 => ?_
  refine PQ.bind (P := fun t k => t.fit ∧ k < l.length) (fun _ _ h => ⟨kindM_fit hl 5 k4 h4 _ _ h, kindM_in he 5 k4 h4 _ _ h⟩) fun t k5 ⟨ht, h5⟩ => PQ.bind (fun _ _ h => mustM_in he h5 _ _ h) fun _ _ h6 => PQ.bind (fun _ _ h => mustM_in he h6 _ _ h) fun _ k7 h7 => ?_
  refine PQ.bind (P := fun t k => t.fit ∧ k < l.length) (fun _ _ h => ⟨kindM_fit hl 5 k7 h7 _ _ h, kindM_in he 5 k7 h7 _ _ h⟩) fun a k8 ⟨ha, h8⟩ => PQ.bind (P := fun _ _ => True) (fun _ _ _ => trivial) fun _ _ _ => PQ.bind (P := fun _ _ => True) (fun _ _ _ => trivial) fun _ _ _ => ?_
  refine PQ.bind (P := fun _ _ => True) (fun _ _ _ => trivial) fun _ _ _ => PQ.bind (P := fun _ _ => True) (fun _ _ _ => trivial) fun _ _ _ => PQ.bind (P := fun _ _ => True) (fun _ _ _ => trivial) fun _ _ _ => .ok ?_
  exact ⟨by show s.size < _; omega, ht, ha⟩
theorem mem_snoc {α : Type} {P : α → Prop} {l : List α} {y : α} (h : ∀ x ∈ l, P x) (hy : P y) : ∀ x ∈ l ++ [y], P x := fun x hx => by
  rcases List.mem_append.1 hx with hx | hx
  · exact h x hx
  · rw [List.mem_singleton.1 hx]; exact hy
theorem typesGo_q {l : List LTok} (hl : Toked l) : ∀ (f k : Nat) (a : List Al), k < l.length → a.length ≤ k → (∀ x ∈ a, x.fit) → ∀ v k', typesGo l f k a = .ok v k' → (v.length ≤ k' ∧ ∀ x ∈ v, x.fit) ∧ k' < l.length
  | 0, _, _, _, _, _, v, k', h => by cases h
  | f + 1, k, a, hk, h1, h2, v, k', h => by
    have he := hl.ended
    unfold typesGo at h
    split at h
    rotate_left
    · cases h; exact ⟨⟨h1, h2⟩, hk⟩
    rename_i hm
    have hk1 := isM_next he hk hm
    cases e1 : nameM l (k + 1) with
    | err p e => rw [e1] at h; cases h
    | ok s k2 =>
    rw [PO.ok_bind e1] at h
    obtain ⟨hs, hk2, rfl⟩ := nameM_q hl hk1 _ _ e1
    cases e2 : mustM l (k + 1 + 1) (bs [61]) with
    | err p e => rw [e2] at h; cases h
    | ok _ k3 =>
    rw [PO.ok_bind e2] at h
    have hk3 := mustM_in he hk2 _ _ e2
    have g3 := mustM_ge _ _ e2
    cases e3 : kindM l 5 k3 with
    | err p e => rw [e3] at h; cases h
    | ok t k4 =>
    rw [PO.ok_bind e3] at h
    have hk4 := kindM_in he 5 k3 hk3 _ _ e3
    have g4 := kindM_ge 5 k3 _ _ e3
    cases e4 : mustM l k4 (bs [59]) with
    | err p e => rw [e4] at h; cases h
    | ok _ k5 =>
    rw [PO.ok_bind e4] at h
    have hk5 := mustM_in he hk4 _ _ e4
    have g5 := mustM_ge _ _ e4
    exact typesGo_q hl f k5 _ hk5 (by simp; omega) (mem_snoc h2 ⟨by show s.size < _; omega, kindM_fit hl 5 k3 hk3 _ _ e3⟩) v k' h
theorem faultsGo_q {l : List LTok} (hl : Toked l) : ∀ (f k : Nat) (a : List Fl), k < l.length → a.length ≤ k → (∀ x ∈ a, x.name.size < 2 ^ 60) → ∀ v k', faultsGo l f k a = .ok v k' → (v.length ≤ k' ∧ ∀ x ∈ v, x.name.size < 2 ^ 60) ∧ k' < l.length
  | 0, _, _, _, _, _, v, k', h => by cases h
  | f + 1, k, a, hk, h1, h2, v, k', h => by
    have he := hl.ended
    unfold faultsGo at h
    split at h
    rotate_left
    · cases h; exact ⟨⟨h1, h2⟩, hk⟩
    rename_i hm
    have hk1 := isM_next he hk hm
    cases e1 : nameM l (k + 1) with
    | err p e => rw [e1] at h; cases h
    | ok s k2 =>
    rw [PO.ok_bind e1] at h
    obtain ⟨hs, hk2, rfl⟩ := nameM_q hl hk1 _ _ e1
    cases e2 : mustM l (k + 1 + 1) (bs [61]) with
    | err p e => rw [e2] at h; cases h
    | ok _ k3 =>
    rw [PO.ok_bind e2] at h
    have hk3 := mustM_in he hk2 _ _ e2
    have g3 := mustM_ge _ _ e2
    cases e3 : numM l k3 with
    | err p e => rw [e3] at h; cases h
    | ok t k4 =>
    rw [PO.ok_bind e3] at h
    have hk4 := numM_in he hk3 _ _ e3
    have g4 := numM_ge _ _ e3
    cases e4 : mustM l k4 (bs [59]) with
    | err p e => rw [e4] at h; cases h
    | ok _ k5 =>
    rw [PO.ok_bind e4] at h
    have hk5 := mustM_in he hk4 _ _ e4
    have g5 := mustM_ge _ _ e4
    exact faultsGo_q hl f k5 _ hk5 (by simp; omega) (mem_snoc h2 (by show s.size < _; omega)) v k' h
theorem procsGo_q {l : List LTok} (hl : Toked l) : ∀ (f k : Nat) (a : List Pc), k < l.length → a.length ≤ k → (∀ x ∈ a, x.fit) → ∀ v k', procsGo l f k a = .ok v k' → (v.length ≤ k' ∧ ∀ x ∈ v, x.fit) ∧ k' < l.length
  | 0, _, _, _, _, _, v, k', h => by cases h
  | f + 1, k, a, hk, h1, h2, v, k', h => by
    have he := hl.ended
    unfold procsGo at h
    split at h
    rotate_left
    · cases h; exact ⟨⟨h1, h2⟩, hk⟩
    rename_i hm
    have hk1 := isM_next he hk hm
    cases e1 : procM l (k + 1) with
    | err p e => rw [e1] at h; cases h
    | ok p k2 =>
    rw [PO.ok_bind e1] at h
    have hk2 := procM_in he hk1 _ _ e1
    have g2 := procM_ge _ _ e1
    exact procsGo_q hl f k2 _ hk2 (by simp; omega) (mem_snoc h2 (procM_fit hl hk1 _ _ e1)) v k' h
theorem tableM_fit {l : List LTok} (hl : Toked l) {t : TB} {k : Nat} (h : tableM l 0 = .ok t k) : t.fit := by
  have he := hl.ended
  have hfew := hl.few
  refine PQ.bind (Q := TB.fit) (fun _ _ h => mustM_in he hl.pos _ _ h) (fun _ k1 h1 => PQ.bind (nameM_q hl h1) fun s k2 ⟨hs, h2, _⟩ => PQ.bind (fun _ _ h => numM_in he h2 _ _ h) fun n k3 h3 => PQ.bind (fun _ _ h => mustM_in he h3 _ _ h) fun _ k4 h4 => PQ.bind (fun _ _ h => numM_in he h4 _ _ h) fun v k5 h5 => PQ.bind (fun _ _ h => mustM_in he h5 _ _ h) fun _ k6 h6 => ?_) t k h
  refine PQ.bind (typesGo_q hl _ k6 [] h6 (Nat.zero_le _) (fun _ h => by cases h)) fun a k7 ⟨⟨a1, a2⟩, h7⟩ => PQ.bind (faultsGo_q hl _ k7 [] h7 (Nat.zero_le _) (fun _ h => by cases h)) fun f k8 ⟨⟨f1, f2⟩, h8⟩ => PQ.bind (procsGo_q hl _ k8 [] h8 (Nat.zero_le _) (fun _ h => by cases h)) fun p k9 ⟨⟨p1, p2⟩, h9⟩ => ?_
  refine PQ.bind (P := fun _ _ => True) (fun _ _ _ => trivial) fun _ _ _ => .ok ?_
  exact ⟨by show s.size < _; omega, ⟨by show a.length < _; omega, fun x hx => (a2 x hx).2⟩, fun x hx => (a2 x hx).1, by show f.length < _; omega, f2, by show p.length < _; omega, fun x hx => (p2 x hx).1, fun x hx => (p2 x hx).2⟩
def TB.zero : TB := ⟨bs [], 0, 0, [], [], []⟩
/-- A text's table; an error, and where. -/
def parseM (s : ByteArray) : TB × Int × Int :=
  match lexM s with
  | .bad p e => (TB.zero, p, e)
  | .ok l => match tableM l 0 with
    | .err p e => (TB.zero, p, e)
    | .ok t _ => if t.check ≠ 0 then (TB.zero, s.size, t.check) else (t, 0, 0)
end Go.Pv
