/- Tables as data. No condition. -/
import Derived.Test.YtmkfohiocklkoaaDoorD2
namespace Go.Pv

/-- A name for a type. -/
structure Al where
  name : ByteArray
  ty : KT
def Al.row (a : Al) : List Dat := .str a.name :: a.ty.row
def alRows (l : List Al) : Dat := .sl (l.map Al.row)
theorem Al.row_len (a : Al) : a.row.length = 5 := by simp [Al.row, KT.row_len]
def KT.zero : KT := .mk 0 0 [] []
def foldW (f : KT → Int → (KT × Int) × Int) : List KT → Int → (List KT × Int) × Int
  | [], left => (([], 0), left)
  | o :: os, left =>
    if (f o left).1.2 ≠ 0 then (([], (f o left).1.2), (f o left).2)
    else if (foldW f os (f o left).2).1.2 ≠ 0 then (([], (foldW f os (f o left).2).1.2), (foldW f os (f o left).2).2)
    else (((f o left).1.1 :: (foldW f os (f o left).2).1.1, 0), (foldW f os (f o left).2).2)
def refAt (types : List Al) (n : List ByteArray) : Nat := types.findIdx fun a => decide (n.length = 1) && seqB a.name (n.getD 0 (bs []))
def wholeM : Nat → List Al → KT → Int → (KT × Int) × Int
  | 0, _, _, left => ((KT.zero, 5), left)
  | d + 1, types, x, left =>
    if x.kind = 9 then
      match types[refAt types x.names]? with
      | some a => wholeM d (types.take (refAt types x.names)) a.ty left
      | none => ((KT.zero, 10), left)
    else if left - 1 < 0 then ((KT.zero, 6), left - 1)
    else if (foldW (wholeM d types) x.of (left - 1)).1.2 ≠ 0 then ((KT.zero, (foldW (wholeM d types) x.of (left - 1)).1.2), (foldW (wholeM d types) x.of (left - 1)).2)
    else ((.mk x.kind x.most x.names (foldW (wholeM d types) x.of (left - 1)).1.1, 0), (foldW (wholeM d types) x.of (left - 1)).2)
/-- Small enough to be copied. -/
def fitA (l : List Al) : Prop := l.length < 2 ^ 40 ∧ ∀ a ∈ l, a.ty.fit
theorem foldW_left {f : KT → Int → (KT × Int) × Int} (hf : ∀ x left, 0 ≤ left → -1 ≤ (f x left).2 ∧ (f x left).2 ≤ left ∧ ((f x left).1.2 = 0 → 0 ≤ (f x left).2)) : ∀ (l : List KT) (left : Int), 0 ≤ left →
    -1 ≤ (foldW f l left).2 ∧ (foldW f l left).2 ≤ left ∧ ((foldW f l left).1.2 = 0 → 0 ≤ (foldW f l left).2)
  | [], left, h => ⟨by simp only [foldW]; omega, Int.le_refl _, fun _ => h⟩
  | x :: xs, left, h => by
    obtain ⟨h1, h2, h3⟩ := hf x left h
    unfold foldW
    split
    · rename_i he; exact ⟨h1, h2, fun e => absurd e he⟩
    · rename_i he
      have h4 := h3 (by simpa using he)
      obtain ⟨k1, k2, k3⟩ := foldW_left hf xs _ h4
      split
      · rename_i he'; exact ⟨k1, by simp only; omega, fun e => absurd e he'⟩
      · rename_i he'; exact ⟨k1, by simp only; omega, fun _ => k3 (by simpa using he')⟩
theorem wholeM_left : ∀ (d : Nat) (types : List Al) (x : KT) (left : Int), 0 ≤ left → -1 ≤ (wholeM d types x left).2 ∧ (wholeM d types x left).2 ≤ left ∧ ((wholeM d types x left).1.2 = 0 → 0 ≤ (wholeM d types x left).2)
  | 0, types, x, left, h => ⟨by simp only [wholeM]; omega, Int.le_refl _, fun _ => h⟩
  | d + 1, types, x, left, h => by
    unfold wholeM
    split
    · split
      · exact wholeM_left d _ _ left h
      · exact ⟨by simp only; omega, Int.le_refl _, fun _ => h⟩
    · split
      · rename_i h1; exact ⟨by simp only; omega, by simp only; omega, fun e => by cases e⟩
      · rename_i h1
        obtain ⟨k1, k2, k3⟩ := foldW_left (fun y l hl => wholeM_left d types y l hl) x.of (left - 1) (by omega)
        split
        · rename_i he; exact ⟨k1, by simp only; omega, fun e => absurd e he⟩
        · rename_i he; exact ⟨k1, by simp only; omega, fun _ => k3 (by simpa using he)⟩
theorem foldW_snoc {f : KT → Int → (KT × Int) × Int} : ∀ {l : List KT} {left : Int} {outs : List KT} {l1 : Int} {x : KT}, foldW f l left = ((outs, 0), l1) →
    foldW f (l ++ [x]) left = if (f x l1).1.2 ≠ 0 then (([], (f x l1).1.2), (f x l1).2) else ((outs ++ [(f x l1).1.1], 0), (f x l1).2)
  | [], left, outs, l1, x, h => by
    simp only [foldW, Prod.mk.injEq] at h
    obtain ⟨⟨rfl, _⟩, rfl⟩ := h
    simp only [List.nil_append, foldW]
    split
    · rfl
    · simp
  | y :: ys, left, outs, l1, x, h => by
    simp only [foldW] at h
    split at h
    · rename_i he; simp only [Prod.mk.injEq] at h; exact absurd h.1.2 he
    · rename_i he
      split at h
      · rename_i he'; simp only [Prod.mk.injEq] at h; exact absurd h.1.2 he'
      · rename_i he'
        simp only [Prod.mk.injEq] at h
        obtain ⟨⟨rfl, _⟩, rfl⟩ := h
        have hz : foldW f ys (f y left).2 = (((foldW f ys (f y left).2).1.1, 0), (foldW f ys (f y left).2).2) := by
          have : (foldW f ys (f y left).2).1.2 = 0 := by simpa using he'
          rw [← this]
        have ih := foldW_snoc (x := x) hz
        simp only [List.cons_append, foldW, if_neg he]
        rw [ih]
        split
        · rfl
        · first | rfl | (rw [if_neg (by simp)])
theorem foldW_stop {f : KT → Int → (KT × Int) × Int} : ∀ {l k : List KT} {left : Int}, (foldW f l left).1.2 ≠ 0 → foldW f (l ++ k) left = (([], (foldW f l left).1.2), (foldW f l left).2)
  | [], k, left, h => by simp [foldW] at h
  | y :: ys, k, left, h => by
    simp only [foldW, List.cons_append] at h ⊢
    split
    · rename_i he; rfl
    · rename_i he
      rw [if_neg he] at h
      have hz : (foldW f ys (f y left).2).1.2 ≠ 0 := by
        intro e
        rw [if_neg (by simp [e])] at h
        exact h rfl
      rw [foldW_stop (k := k) hz]
      simp only [if_pos hz]
theorem wholeM_ref {d : Nat} {types : List Al} {m : Int} {n : List ByteArray} {o : List KT} {left : Int} {i : Nat} (hi : i < types.length) (h : refAt types n = i) : wholeM (d + 1) types (.mk 9 m n o) left = wholeM d (types.take i) types[i].ty left := by
  rw [wholeM]
  simp only [KT.kind, KT.names, if_true, h, List.getElem?_eq_getElem hi]
theorem wholeM_none {d : Nat} {types : List Al} {m : Int} {n : List ByteArray} {o : List KT} {left : Int} (h : ¬ refAt types n < types.length) : wholeM (d + 1) types (.mk 9 m n o) left = ((KT.zero, 10), left) := by
  rw [wholeM]
  simp only [KT.kind, KT.names, if_true, List.getElem?_eq_none (Nat.le_of_not_lt h)]
theorem wholeM_rec {d : Nat} {types : List Al} {k m : Int} {n : List ByteArray} {o : List KT} {left : Int} (hk : k ≠ 9) (hl : ¬ left - 1 < 0) {outs : List KT} {e l : Int} (h : foldW (wholeM d types) o (left - 1) = ((outs, e), l)) :
    wholeM (d + 1) types (.mk k m n o) left = if e ≠ 0 then ((KT.zero, e), l) else ((.mk k m n outs, 0), l) := by
  rw [wholeM]
  simp only [KT.kind, KT.names, KT.of, KT.most, if_neg hk, if_neg hl, h]
theorem wholeM_out {d : Nat} {types : List Al} {k m : Int} {n : List ByteArray} {o : List KT} {left : Int} (hk : k ≠ 9) (hl : left - 1 < 0) : wholeM (d + 1) types (.mk k m n o) left = ((KT.zero, 6), left - 1) := by
  rw [wholeM]
  simp only [KT.kind, KT.names, if_neg hk, if_pos hl]
theorem zero_av : KT.zero.av = .agg [.d (.int .u8 0), .d (.int .i64 0), .d (.sl []), .d (.sl [])] := by simp [KT.zero, KT.av, KT.row, KT.rows, strs, srows]
/-- May a name be one more? -/
def freshE (s : ByteArray) (all : List ByteArray) : Int := if isName s = false then 8 else if smem s all = true then 9 else 0
/-- As 'Check' answers of a table that has names for types alone. -/
def typesE : List Al → List ByteArray → Int
  | [], _ => 0
  | a :: rest, known => if freshE a.name known ≠ 0 then freshE a.name known else if a.ty.check 5 known ≠ 0 then a.ty.check 5 known else typesE rest (known ++ [a.name])
def tableE (name : ByteArray) (number version : Int) (types : List Al) : Int :=
  if isName name = false then 8 else if (inNum number && inNum version) = false then 2 else if types.length > 16 then 7 else typesE types []
theorem typesE_first {l : List Al} {known : List ByteArray} {k : Nat} (hk : k < l.length) : typesE (l.take k) known = 0 →
    typesE l known = typesE (l.drop k) (known ++ (l.take k).map Al.name) := by
  intro h
  induction k generalizing l known with
  | zero => simp
  | succ k ih =>
    cases l with
    | nil => cases hk
    | cons a rest =>
      simp only [List.take_succ_cons, typesE] at h
      split at h
      · rename_i e; exact absurd h e
      · rename_i e
        split at h
        · rename_i e'; exact absurd h e'
        · rename_i e'
          simp only [typesE, if_neg e, if_neg e', List.drop_succ_cons, List.take_succ_cons, List.map_cons]
          rw [ih (by simpa using hk) h]
          simp
theorem typesE_snoc {l : List Al} {known : List ByteArray} {a : Al} : typesE l known = 0 → typesE (l ++ [a]) known = typesE [a] (known ++ l.map Al.name) := by
  intro h
  induction l generalizing known with
  | nil => simp
  | cons b bs ih =>
    simp only [typesE] at h
    split at h
    · rename_i e; exact absurd h e
    · rename_i e
      split at h
      · rename_i e'; exact absurd h e'
      · rename_i e'
        simp only [List.cons_append, typesE, if_neg e, if_neg e']
        rw [show typesE (bs ++ [a]) (known ++ [b.name]) = _ from ih h]
        simp [typesE]
theorem typesE_stop {l k : List Al} {known : List ByteArray} : typesE l known ≠ 0 → typesE (l ++ k) known = typesE l known := by
  intro h
  induction l generalizing known with
  | nil => exact absurd rfl h
  | cons b bs ih =>
    simp only [List.cons_append, typesE] at h ⊢
    split
    · rfl
    · rename_i e
      rw [if_neg e] at h
      split
      · rfl
      · rename_i e'
        rw [if_neg e'] at h
        exact ih h
theorem typesE_at {l : List Al} {i : Nat} (hi : i < l.length) (h : typesE (l.take i) [] = 0) : typesE (l.take (i + 1)) [] = typesE [l[i]] ((l.take i).map Al.name) ∧ (typesE [l[i]] ((l.take i).map Al.name) ≠ 0 → typesE l [] = typesE [l[i]] ((l.take i).map Al.name)) := by
  have h1 : typesE (l.take (i + 1)) [] = typesE [l[i]] ((l.take i).map Al.name) := by
    rw [List.take_succ_eq_append_getElem hi, typesE_snoc h]
    rfl
  refine ⟨h1, fun hne => ?_⟩
  have := typesE_stop (k := l.drop (i + 1)) (h1 ▸ hne)
  rwa [List.take_append_drop, h1] at this
end Go.Pv
