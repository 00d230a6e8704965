/- What stands between tokens doesn't matter. No condition. -/
import Derived.Test.YtdggkhnelmonkaaDoorF21
namespace Go.Pv
set_option maxRecDepth 100000

/-- The same tokens, at other places. -/
def Sim (l m : List LTok) : Prop := l.length = m.length ∧ ∀ k, tkAt l k = tkAt m k
/-- The same came of it, but for where. -/
def RP {α : Type} (o p : PO α) : Prop := (∃ v k, o = .ok v k ∧ p = .ok v k) ∨ ∃ a b e, o = .err a e ∧ p = .err b e
theorem RP.bind {α β : Type} {o p : PO α} {f g : α → Nat → PO β} (h : RP o p) (hf : ∀ v k, RP (f v k) (g v k)) : RP (o.bind f) (p.bind g) := by
  rcases h with ⟨v, k, rfl, rfl⟩ | ⟨a, b, e, rfl, rfl⟩
  · exact hf v k
  · exact .inr ⟨a, b, e, rfl, rfl⟩
theorem RP.ok {α : Type} {v : α} {k : Nat} : RP (.ok v k) (.ok v k) := .inl ⟨v, k, rfl, rfl⟩
section
variable {l m : List LTok} (h : Sim l m)
include h
theorem Sim.kind (k : Nat) : (tokAt l k).kind = (tokAt m k).kind := congrArg Prod.fst (h.2 k)
theorem Sim.text (k : Nat) : (tokAt l k).text = (tokAt m k).text := congrArg Prod.snd (h.2 k)
theorem Sim.is (k : Nat) (w : ByteArray) : isM l k w = isM m k w := by rw [isM, isM, h.kind, h.text]
omit h in
theorem RP.fail {α : Type} (k : Nat) (e : Int) : RP (failM (α := α) l k e) (failM m k e) := .inr ⟨_, _, e, rfl, rfl⟩
theorem Sim.must (k : Nat) (w : ByteArray) : RP (mustM l k w) (mustM m k w) := by
  rw [mustM, mustM, h.is]
  split
  · exact .ok
  · exact RP.fail k 4
theorem Sim.name (k : Nat) : RP (nameM l k) (nameM m k) := by
  rw [nameM, nameM, h.kind, h.text]
  split
  · exact .ok
  · exact RP.fail k 8
theorem Sim.num (k : Nat) : RP (numM l k) (numM m k) := by
  rw [numM, numM, valM, valM, h.kind, h.text]
  split
  · exact .ok
  · exact RP.fail k 22
theorem Sim.len (k : Nat) : RP (lenM l k) (lenM m k) := (h.must _ _).bind fun _ _ => (h.num _).bind fun _ _ => (h.must _ _).bind fun _ _ => .ok
theorem Sim.fieldsGo {K L : Nat → PO KT} (hK : ∀ k, RP (K k) (L k)) (kk : Int) : ∀ (f k : Nat) (ns : List ByteArray) (ts : List KT), RP (fieldsGo K kk l f k ns ts) (fieldsGo L kk m f k ns ts)
  | 0, k, _, _ => RP.fail k 0
  | f + 1, k, ns, ts => by
    unfold Pv.fieldsGo
    refine (h.name k).bind fun s k => RP.bind ?_ fun ts k => ?_
    · split
      · exact .ok
      · exact (h.must _ _).bind fun _ _ => (hK _).bind fun _ _ => .ok
    · rw [h.is]
      split
      · exact Sim.fieldsGo hK kk f _ _ _
      · exact (h.must _ _).bind fun _ _ => .ok
theorem Sim.fields {K L : Nat → PO KT} (hK : ∀ k, RP (K k) (L k)) (kk : Int) (k : Nat) : RP (fieldsM K kk l k) (fieldsM L kk m k) :=
  (h.must _ _).bind fun _ _ => by rw [h.1]; exact h.fieldsGo hK kk _ _ _ _
theorem Sim.kindM : ∀ (d k : Nat), RP (kindM l d k) (kindM m d k)
  | 0, k => RP.fail k 5
  | d + 1, k => by
    have hK := Sim.kindM d
    unfold Pv.kindM
    simp only [h.is]
    split
    · exact .ok
    split
    · exact .ok
    split
    · exact .ok
    split
    · exact .ok
    split
    · exact (h.len _).bind fun _ _ => .ok
    split
    · exact (h.len _).bind fun _ _ => (h.must _ _).bind fun _ _ => (hK _).bind fun _ _ => .ok
    split
    · exact h.fields hK _ _
    split
    · exact h.fields hK _ _
    split
    · exact h.fields hK _ _
    · exact (h.name _).bind fun _ _ => .ok
theorem Sim.col (k : Nat) : RP (colM l k) (colM m k) := by
  unfold colM
  simp only [h.is]
  split
  · exact .ok
  split
  · exact .ok
  · exact (h.must _ _).bind fun _ _ => .ok
theorem Sim.proc (k : Nat) : RP (procM l k) (procM m k) :=
  (h.name _).bind fun _ _ => (h.must _ _).bind fun _ _ => (h.num _).bind fun _ _ => (h.must _ _).bind fun _ _ => (h.kindM 5 _).bind fun _ _ => (h.must _ _).bind fun _ _ => (h.must _ _).bind fun _ _ => (h.kindM 5 _).bind fun _ _ =>
  (h.must _ _).bind fun _ _ => (h.col _).bind fun _ _ => (h.must _ _).bind fun _ _ => (h.num _).bind fun _ _ => (h.must _ _).bind fun _ _ => .ok
theorem Sim.types : ∀ (f k : Nat) (a : List Al), RP (typesGo l f k a) (typesGo m f k a)
  | 0, k, _ => RP.fail k 0
  | f + 1, k, a => by
    unfold typesGo
    rw [h.is]
    split
    · exact (h.name _).bind fun _ _ => (h.must _ _).bind fun _ _ => (h.kindM 5 _).bind fun _ _ => (h.must _ _).bind fun _ _ => Sim.types f _ _
    · exact .ok
theorem Sim.faults : ∀ (f k : Nat) (a : List Fl), RP (faultsGo l f k a) (faultsGo m f k a)
  | 0, k, _ => RP.fail k 0
  | f + 1, k, a => by
    unfold faultsGo
    rw [h.is]
    split
    · exact (h.name _).bind fun _ _ => (h.must _ _).bind fun _ _ => (h.num _).bind fun _ _ => (h.must _ _).bind fun _ _ => Sim.faults f _ _
    · exact .ok
theorem Sim.procs : ∀ (f k : Nat) (a : List Pc), RP (procsGo l f k a) (procsGo m f k a)
  | 0, k, _ => RP.fail k 0
  | f + 1, k, a => by
    unfold procsGo
    rw [h.is]
    split
    · exact (h.proc _).bind fun _ _ => Sim.procs f _ _
    · exact .ok
theorem Sim.end (k : Nat) : RP (endM l k) (endM m k) := (h.must _ _).bind fun _ k => by
  rw [h.kind]
  split
  · exact .ok
  · exact RP.fail k 12
theorem Sim.table (k : Nat) : RP (tableM l k) (tableM m k) := by
  unfold tableM
  simp only [h.1]
  exact (h.must _ _).bind fun _ _ => (h.name _).bind fun _ _ => (h.num _).bind fun _ _ => (h.must _ _).bind fun _ _ => (h.num _).bind fun _ _ => (h.must _ _).bind fun _ _ =>
    (h.types _ _ _).bind fun _ _ => (h.faults _ _ _).bind fun _ _ => (h.procs _ _ _).bind fun _ _ => (h.end _).bind fun _ _ => .ok
end
theorem toksAt_tk (items : List It) (n p k : Nat) : tkAt (toksAt n items ++ [⟨0, p, bs []⟩]) k = (tks items ++ [(0, bs [])]).getD k (0, bs []) := by
  have hl : (tks items).length = items.length := List.length_map _
  rw [tkAt, tokAt, List.getD_eq_getElem?_getD, List.getD_eq_getElem?_getD]
  by_cases h : k < items.length
  · obtain ⟨x, h1, h2⟩ := toksAt_get (n := n) h
    rw [List.getElem?_append_left (by rw [toksAt_len]; exact h), h1, List.getElem?_append_left (by omega), h2]
    rfl
  · rw [List.getElem?_append_right (by rw [toksAt_len]; omega), toksAt_len, List.getElem?_append_right (by omega), hl]
    by_cases e : k - items.length = 0
    · rw [e]; rfl
    · obtain ⟨j, hj⟩ := Nat.exists_eq_succ_of_ne_zero e
      rw [hj]; rfl
theorem sim_items {a b : List It} (h : tks a = tks b) (p q : Nat) : Sim (toksAt 0 a ++ [⟨0, p, bs []⟩]) (toksAt 0 b ++ [⟨0, q, bs []⟩]) := by
  refine ⟨?_, fun k => by rw [toksAt_tk, toksAt_tk, h]⟩
  have := congrArg List.length h
  rw [tks, tks, List.length_map, List.length_map] at this
  rw [List.length_append, List.length_append, toksAt_len, toksAt_len, this]
  rfl
theorem lex_text {l : List Tk} (h : ∀ x ∈ l, goodT x) (gaps : List Int) (hs : (texM (l.map (·.2)) gaps l.length).size ≤ 4000) :
    lexM (texM (l.map (·.2)) gaps l.length) = .ok (toksAt 0 (itG gaps 0 l) ++ [⟨0, (texM (l.map (·.2)) gaps l.length).size, bs []⟩]) :=
  lexM_items (tail := []) (by rw [texM_all, List.append_nil]) .nil (itG_ok gaps l 0 [] h sepL_nil) hs
/-- The same tokens, with other things between them. -/
theorem parse_gaps {l : List Tk} (h : ∀ x ∈ l, goodT x) (a b : List Int) (ha : (texM (l.map (·.2)) a l.length).size ≤ 4000) (hb : (texM (l.map (·.2)) b l.length).size ≤ 4000) :
    (parseM (texM (l.map (·.2)) a l.length)).1 = (parseM (texM (l.map (·.2)) b l.length)).1 ∧ (parseM (texM (l.map (·.2)) a l.length)).2.2 = (parseM (texM (l.map (·.2)) b l.length)).2.2 := by
  have h1 := lex_text h a ha
  have h2 := lex_text h b hb
  have hs := (sim_items ((itG_tks a 0 l).trans (itG_tks b 0 l).symm) (texM (l.map (·.2)) a l.length).size (texM (l.map (·.2)) b l.length).size).table 0
  unfold parseM
  rw [h1, h2]
  rcases hs with ⟨v, k, e1, e2⟩ | ⟨p, q, e, e1, e2⟩
  · simp only [e1, e2]
    split
    · exact ⟨rfl, rfl⟩
    · exact ⟨rfl, rfl⟩
  · simp only [e1, e2]
    refine ⟨?_, ?_⟩ <;> first | trivial | rfl
theorem zero_fit : TB.zero.fit := ⟨by decide, ⟨by decide, fun _ h => by cases h⟩, (fun _ h => by cases h), by decide, (fun _ h => by cases h), by decide, (fun _ h => by cases h), (fun _ h => by cases h)⟩
theorem parseM_fit (s : ByteArray) : (parseM s).1.fit := by
  unfold parseM
  cases hl : lexM s with
  | bad p e => exact zero_fit
  | ok l =>
    simp only
    cases ht : tableM l 0 with
    | err p e => exact zero_fit
    | ok t k =>
      simp only
      split
      · exact zero_fit
      · exact tableM_fit (lexM_toked hl) ht
end Go.Pv
