/- Texts and types as data. No condition. -/
import Derived.Test.YtmkfohiocklkoaaDoorP26
namespace Go.Pv

/-- A text of these bytes. -/
def bs (l : List Nat) : ByteArray := ⟨(l.map fun n => UInt8.ofNat n).toArray⟩
def words : List ByteArray := [bs [98, 111, 111, 108], bs [99, 97, 114, 100], bs [108, 111, 110, 103], bs [114, 101, 97, 108], bs [116, 101, 120, 116], bs [115, 101, 113], bs [111, 102], bs [114, 101, 99, 111, 114, 100], bs [101, 110, 117, 109], bs [99, 104, 111, 105, 99, 101], bs [112, 114, 111, 103, 114, 97, 109], bs [118, 101, 114, 115, 105, 111, 110], bs [116, 121, 112, 101], bs [101, 114, 114, 111, 114], bs [112, 114, 111, 99], bs [114, 101, 116, 117, 114, 110, 115], bs [99, 111, 108, 108, 97, 116, 101], bs [116, 105, 109, 101, 111, 117, 116], bs [102, 105, 114, 115, 116], bs [109, 97, 106, 111, 114, 105, 116, 121], bs [97, 108, 108]]
def srows (l : List ByteArray) : List (List Dat) := l.map fun s => [.str s]
def strs (l : List ByteArray) : Dat := .sl (srows l)
theorem srows_one {l : List ByteArray} : ∀ r ∈ srows l, r.length = 1 := by
  intro r hr
  simp only [srows, List.mem_map] at hr
  obtain ⟨s, _, rfl⟩ := hr
  rfl
theorem srows_app (l k : List ByteArray) : srows l ++ srows k = srows (l ++ k) := List.map_append.symm
/-- The package variable 'reserved'. -/
def GK : Glob := fun g => if g = 0 then some [strs words] else none
def seqB (x y : ByteArray) : Bool := x.toList == y.toList
def smem (x : ByteArray) (l : List ByteArray) : Bool := l.any fun y => seqB x y
def letter (n : Int) : Bool := (decide (n ≥ 97) && decide (n ≤ 122)) || (decide (n ≥ 65) && decide (n ≤ 90))
def digit (n : Int) : Bool := decide (n ≥ 48) && decide (n ≤ 57)
theorem iaddr_strs {G : Glob} {s : Slots} {a b : Arg} {l : List ByteArray} {k : Nat} (ha : a.ev G s = .d (strs l)) (hb : b.ev G s = i64 k) (hk : k < l.length) : ev G s (.iaddr 1 a b) = some (.elt [.str l[k]]) := by
  simp only [ev, ha, hb]
  simp [strs, srows, AV.rows?, i64, hk]
def idxS (x : ByteArray) (l : List ByteArray) : Int := if smem x l = true then (l.findIdx (seqB x) : Int) else -1
theorem any_take {l : List ByteArray} {p : ByteArray → Bool} {k : Nat} (hk : k < l.length) : (l.take (k + 1)).any p = ((l.take k).any p || p l[k]) := by
  rw [List.take_succ_eq_append_getElem hk, List.any_append]; simp
theorem len_srows (l : List ByteArray) : (srows l).length = l.length := List.length_map _
def chOk (s : ByteArray) (i : Nat) : Bool := letter (byteAt s i) || digit (byteAt s i)
def isName (s : ByteArray) : Bool := decide (1 ≤ s.size) && decide (s.size ≤ 20) && letter (byteAt s 0) && ((List.range s.size).all (chOk s)) && !smem s words
def inNum (n : Int) : Bool := decide (n ≥ 0) && decide (n ≤ 65535)
/-- A type. -/
inductive KT where
  | mk (kind most : Int) (names : List ByteArray) (of : List KT)
namespace KT
def kind : KT → Int | mk k _ _ _ => k
def most : KT → Int | mk _ m _ _ => m
def names : KT → List ByteArray | mk _ _ n _ => n
def of : KT → List KT | mk _ _ _ o => o
end KT
theorem KT.ind {P : KT → Prop} (h : ∀ k m n o, (∀ x ∈ o, P x) → P (.mk k m n o)) : ∀ t, P t
  | .mk k m n o => h k m n o fun x _ => KT.ind h x
mutual
def KT.row : KT → List Dat
  | .mk k m n o => [.int .u8 k, .int .i64 m, strs n, .sl (KT.rows o)]
def KT.rows : List KT → List (List Dat)
  | [] => []
  | t :: ts => t.row :: KT.rows ts
end
theorem KT.rows_map : ∀ l, KT.rows l = l.map KT.row
  | [] => rfl
  | t :: ts => by simp [KT.rows, KT.rows_map ts]
theorem KT.rows_len (l : List KT) : (KT.rows l).length = l.length := by rw [KT.rows_map, List.length_map]
theorem KT.row_len : ∀ t : KT, t.row.length = 4 | .mk .. => rfl
def KT.av (t : KT) : AV := .agg (t.row.map .d)
/-- As 'names' answers. -/
def namesE (l : List ByteArray) : Nat → Int
  | 0 => 0
  | k + 1 => if namesE l k ≠ 0 then namesE l k else if isName (l.getD k (bs [])) = false then 8 else if smem (l.getD k (bs [])) (l.take k) = true then 9 else 0
def namesM (l : List ByteArray) : Int := if l.length < 1 ∨ l.length > 12 then 7 else namesE l l.length
/-- Texts and rows that a machine can hold. -/
def fitS (l : List ByteArray) : Prop := l.length < 2 ^ 40 ∧ ∀ s ∈ l, s.size < 2 ^ 60
theorem namesE_stays {l : List ByteArray} {j : Nat} (h : namesE l j ≠ 0) : ∀ k, j ≤ k → namesE l k = namesE l j := by
  intro k
  induction k with
  | zero =>
    intro hk
    obtain rfl : j = 0 := by omega
    rfl
  | succ k ih =>
    intro hk
    by_cases e : j = k + 1
    · rw [e]
    · have := ih (by omega)
      simp only [namesE]
      rw [this, if_pos h]
theorem slc_rows {G : Glob} {s : Slots} {x b : Arg} {rows : List (List Dat)} {j : Nat} {sz : Nat} (hx : x.ev G s = .d (.sl rows)) (hb : b.ev G s = i64 j) (hj : j ≤ rows.length) : ev G s (.slc sz x none (some b)) = some (.d (.sl (rows.take j))) := by
  simp only [ev, hx, AV.rows?, Option.bind_some, Option.map_none, Option.map_some, hb, bnds, bnd, i64]
  rw [if_pos ⟨by omega, by omega⟩]
  simp
theorem iaddr_strsD {G : Glob} {s : Slots} {a b : Arg} {l : List ByteArray} {k : Nat} (ha : a.ev G s = .d (strs l)) (hb : b.ev G s = i64 k) (hk : k < l.length) : ev G s (.iaddr 1 a b) = some (.elt [.str (l.getD k (bs []))]) := by
  rw [iaddr_strs ha hb hk, List.getD_eq_getElem?_getD, List.getElem?_eq_getElem hk]; rfl
def manyOf (k : Int) (n : List ByteArray) : Nat := if k = 5 then 1 else if k = 6 ∨ k = 8 then n.length else 0
/-- Is the form wrong, ahead of the names? -/
def formE (k m : Int) (n : List ByteArray) (o : Nat) (deep : Int) : Int :=
  if k ≥ 10 ∨ deep < 1 then 5 else if ((k = 4 ∨ k = 5) ∧ (m < 1 ∨ m > 60)) ∨ (¬ (k = 4 ∨ k = 5) ∧ m ≠ 0) then 2
  else if o ≠ manyOf k n ∨ (k ≤ 5 ∧ n.length > 0) ∨ (k = 9 ∧ n.length ≠ 1) then 4 else 0
/-- Are the names wrong? -/
def nameE (k : Int) (n known : List ByteArray) : Int :=
  if 6 ≤ k ∧ k ≤ 8 ∧ namesM n ≠ 0 then namesM n else if k = 9 ∧ smem (n.getD 0 (bs [])) known = false then 10 else 0
mutual
def KT.check : KT → Int → List ByteArray → Int
  | .mk k m n o, deep, known => if formE k m n o.length deep ≠ 0 then formE k m n o.length deep else if nameE k n known ≠ 0 then nameE k n known else KT.checks o (deep - 1) known
def KT.checks : List KT → Int → List ByteArray → Int
  | [], _, _ => 0
  | t :: ts, deep, known => if t.check deep known ≠ 0 then t.check deep known else KT.checks ts deep known
end
mutual
def KT.fit : KT → Prop
  | .mk _ _ n o => fitS n ∧ o.length < 2 ^ 40 ∧ KT.fits o
def KT.fits : List KT → Prop
  | [] => True
  | t :: ts => t.fit ∧ KT.fits ts
end
theorem KT.fits_mem : ∀ {l : List KT}, KT.fits l → ∀ t ∈ l, t.fit
  | [], _, _, h => by cases h
  | u :: us, h, t, ht => by
    rcases List.mem_cons.1 ht with rfl | ht
    · exact h.1
    · exact KT.fits_mem h.2 t ht
theorem KT.checks_zero {l : List KT} {d : Int} {known : List ByteArray} : KT.checks l d known = 0 ↔ ∀ t ∈ l, t.check d known = 0 := by
  induction l with
  | nil => simp [KT.checks]
  | cons t ts ih =>
    simp only [KT.checks, List.mem_cons, forall_eq_or_imp]
    split
    · rename_i h; exact ⟨fun e => absurd e h, fun e => absurd e.1 h⟩
    · rename_i h; rw [ih]; exact ⟨fun e => ⟨by simpa using h, e⟩, fun e => e.2⟩
theorem KT.checks_first {l : List KT} {d : Int} {known : List ByteArray} {k : Nat} (hk : k < l.length) (h0 : ∀ t ∈ l.take k, t.check d known = 0) (h : l[k].check d known ≠ 0) : KT.checks l d known = l[k].check d known := by
  induction l generalizing k with
  | nil => cases hk
  | cons t ts ih =>
    cases k with
    | zero => simp only [KT.checks, List.getElem_cons_zero] at h ⊢; rw [if_pos h]
    | succ k =>
      have ht : t.check d known = 0 := h0 t (by simp)
      simp only [KT.checks, ht, List.getElem_cons_succ] at h ⊢
      rw [if_neg (by simp)]
      exact ih (by simpa using hk) (fun u hu => h0 u (by simp [hu])) h
theorem seqB_iff {x y : ByteArray} : seqB x y = true ↔ x = y := by
  unfold seqB
  rw [beq_iff_eq, ByteArray.toList_eq, ByteArray.toList_eq]
  constructor
  · intro h
    obtain ⟨⟨a⟩⟩ := x
    obtain ⟨⟨b⟩⟩ := y
    simp at h
    rw [h]
  · rintro rfl; rfl
/-- Two rows alike, one by one. -/
def eqAll {α : Type} (e : α → α → Bool) : List α → List α → Bool
  | [], [] => true
  | x :: xs, y :: ys => e x y && eqAll e xs ys
  | _, _ => false
theorem eqAll_len {α : Type} {e : α → α → Bool} : ∀ {l k : List α}, eqAll e l k = true → l.length = k.length
  | [], [], _ => rfl
  | x :: xs, y :: ys, h => by simp only [eqAll, Bool.and_eq_true] at h; simp [eqAll_len h.2]
  | [], _ :: _, h => by cases h
  | _ :: _, [], h => by cases h
theorem eqAll_first {α : Type} {e : α → α → Bool} : ∀ {l k : List α} {i : Nat} (h1 : i < l.length) (h2 : i < k.length), e l[i] k[i] = false → eqAll e l k = false
  | x :: xs, y :: ys, 0, _, _, h => by simp only [List.getElem_cons_zero] at h; simp [eqAll, h]
  | x :: xs, y :: ys, i + 1, h1, h2, h => by
    simp only [List.getElem_cons_succ] at h
    have := eqAll_first (l := xs) (k := ys) (by simpa using h1) (by simpa using h2) h
    simp [eqAll, this]
theorem eqAll_all {α : Type} {e : α → α → Bool} : ∀ {l k : List α}, l.length = k.length → (∀ i (h1 : i < l.length) (h2 : i < k.length), e l[i] k[i] = true) → eqAll e l k = true
  | [], [], _, _ => rfl
  | x :: xs, y :: ys, hl, h => by
    simp only [eqAll, Bool.and_eq_true]
    exact ⟨h 0 (by simp) (by simp), eqAll_all (by simpa using hl) fun i h1 h2 => h (i + 1) (by simpa using h1) (by simpa using h2)⟩
mutual
def KT.same : KT → KT → Bool
  | .mk k m n o, .mk k' m' n' o' => (k == k') && (m == m') && eqAll seqB n n' && KT.sames o o'
def KT.sames : List KT → List KT → Bool
  | [], [] => true
  | x :: xs, y :: ys => KT.same x y && KT.sames xs ys
  | _, _ => false
end
theorem KT.sames_all : ∀ l k : List KT, KT.sames l k = eqAll KT.same l k
  | [], [] => rfl
  | x :: xs, y :: ys => by simp [KT.sames, eqAll, KT.sames_all xs ys]
  | [], _ :: _ => rfl
  | _ :: _, [] => rfl
end Go.Pv
