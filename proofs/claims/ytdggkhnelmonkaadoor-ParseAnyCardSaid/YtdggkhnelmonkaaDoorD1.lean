/- Texts and types as data. No condition. -/
import Derived.Test.YtdggkhnelmonkaaDoorP26
namespace Go.Pv

/-- A text of these bytes. -/
def bs (l : List Nat) : ByteArray := ⟨(l.map fun n => UInt8.ofNat n).toArray⟩
def words : List ByteArray := [bs [98, 111, 111, 108], bs [99, 97, 114, 100], bs [108, 111, 110, 103], bs [114, 101, 97, 108], bs [116, 101, 120, 116], bs [115, 101, 113], bs [111, 102], bs [114, 101, 99, 111, 114, 100], bs [101, 110, 117, 109], bs [99, 104, 111, 105, 99, 101], bs [112, 114, 111, 103, 114, 97, 109], bs [118, 101, 114, 115, 105, 111, 110], bs [116, 121, 112, 101], bs [101, 114, 114, 111, 114], bs [112, 114, 111, 99], bs [114, 101, 116, 117, 114, 110, 115], bs [99, 111, 108, 108, 97, 116, 101], bs [116, 105, 109, 101, 111, 117, 116], bs [102, 105, 114, 115, 116], bs [109, 97, 106, 111, 114, 105, 116, 121], bs [97, 108, 108]]
def srows (l : List ByteArray) : List (List Dat) := l.map fun s => [.str s]
def strs (l : List ByteArray) : Dat := .sl (srows l)
theorem srows_one {l : List ByteArray} : ∀ r ∈ srows l, r.length = 1 := by
  intro r hr
  simp only [srows, List.mem_map] at hr
  obtain ⟨s, _, rfl⟩ := hr
  rfl
theorem srows_app (l k : List ByteArray) : srows l ++ srows k = srows (l ++ k) := List.map_append.symm
/-- The package variable 'reserved'. -/
def collators : List ByteArray := [bs [102, 105, 114, 115, 116], bs [109, 97, 106, 111, 114, 105, 116, 121], bs [97, 108, 108]]
def GK : Glob := fun g => if g = 1 then some [strs words] else none
def seqB (x y : ByteArray) : Bool := x.toList == y.toList
def smem (x : ByteArray) (l : List ByteArray) : Bool := l.any fun y => seqB x y
def letter (n : Int) : Bool := (decide (n ≥ 97) && decide (n ≤ 122)) || (decide (n ≥ 65) && decide (n ≤ 90))
def digit (n : Int) : Bool := decide (n ≥ 48) && decide (n ≤ 57)
theorem iaddr_strs {G : Glob} {s : Slots} {a b : Arg} {l : List ByteArray} {k : Nat} (ha : a.ev G s = .d (strs l)) (hb : b.ev G s = i64 k) (hk : k < l.length) : ev G s (.iaddr 1 a b) = some (.elt [.str l[k]]) := by
  simp only [ev, ha, hb]
  simp [strs, srows, AV.rows?, i64, hk]
def idxS (x : ByteArray) (l : List ByteArray) : Int := if smem x l = true then (l.findIdx (seqB x) : Int) else -1
theorem any_take {l : List ByteArray} {p : ByteArray → Bool} {k : Nat} (hk : k < l.length) : (l.take (k + 1)).any p = ((l.take k).any p || p l[k]) := by
  rw [List.take_succ_eq_append_getElem hk, List.any_append]; simp
theorem len_srows (l : List ByteArray) : (srows l).length = l.length := List.length_map _
def chOk (s : ByteArray) (i : Nat) : Bool := letter (byteAt s i) || digit (byteAt s i)
def isName (s : ByteArray) : Bool := decide (1 ≤ s.size) && decide (s.size ≤ 20) && letter (byteAt s 0) && ((List.range s.size).all (chOk s)) && !smem s words
def inNum (n : Int) : Bool := decide (n ≥ 0) && decide (n ≤ 65535)
/-- A type. -/
inductive KT where
  | mk (kind most : Int) (names : List ByteArray) (of : List KT)
namespace KT
def kind : KT → Int | mk k _ _ _ => k
def most : KT → Int | mk _ m _ _ => m
def names : KT → List ByteArray | mk _ _ n _ => n
def of : KT → List KT | mk _ _ _ o => o
end KT
theorem KT.ind {P : KT → Prop} (h : ∀ k m n o, (∀ x ∈ o, P x) → P (.mk k m n o)) : ∀ t, P t
  | .mk k m n o => h k m n o fun x _ => KT.ind h x
mutual
def KT.row : KT → List Dat
  | .mk k m n o => [.int .u8 k, .int .i64 m, strs n, .sl (KT.rows o)]
def KT.rows : List KT → List (List Dat)
  | [] => []
  | t :: ts => t.row :: KT.rows ts
end
theorem KT.rows_map : ∀ l, KT.rows l = l.map KT.row
  | [] => rfl
  | t :: ts => by simp [KT.rows, KT.rows_map ts]
theorem KT.rows_len (l : List KT) : (KT.rows l).length = l.length := by rw [KT.rows_map, List.length_map]
theorem KT.row_len : ∀ t : KT, t.row.length = 4 | .mk .. => rfl
def KT.av (t : KT) : AV := .agg (t.row.map .d)
/-- As 'names' answers. -/
def namesE (l : List ByteArray) : Nat → Int
  | 0 => 0
  | k + 1 => if namesE l k ≠ 0 then namesE l k else if isName (l.getD k (bs [])) = false then 8 else if smem (l.getD k (bs [])) (l.take k) = true then 9 else 0
def namesM (l : List ByteArray) : Int := if l.length < 1 ∨ l.length > 12 then 7 else namesE l l.length
/-- Texts and rows that a machine can hold. -/
def fitS (l : List ByteArray) : Prop := l.length < 2 ^ 40 ∧ ∀ s ∈ l, s.size < 2 ^ 60
theorem namesE_stays {l : List ByteArray} {j : Nat} (h : namesE l j ≠ 0) : ∀ k, j ≤ k → namesE l k = namesE l j := by
  intro k
  induction k with
  | zero =>
    intro hk
    obtain rfl : j = 0 := by omega
    rfl
  | succ k ih =>
    intro hk
    by_cases e : j = k + 1
    · rw [e]
    · have := ih (by omega)
      simp only [namesE]
      rw [this, if_pos h]
theorem slc_rows {G : Glob} {s : Slots} {x b : Arg} {rows : List (List Dat)} {j : Nat} {sz : Nat} (hx : x.ev G s = .d (.sl rows)) (hb : b.ev G s = i64 j) (hj : j ≤ rows.length) : ev G s (.slc sz x none (some b)) = some (.d (.sl (rows.take j))) := by
  simp only [ev, hx, AV.rows?, Option.bind_some, Option.map_none, Option.map_some, hb, bnds, bnd, i64]
  rw [if_pos ⟨by omega, by omega⟩]
  simp only [Option.bind_some, Int.toNat_natCast, true_and, true_or, if_true, List.drop_zero]
  split
  · rename_i h; rw [h, List.take_length]
  · rfl
theorem iaddr_strsD {G : Glob} {s : Slots} {a b : Arg} {l : List ByteArray} {k : Nat} (ha : a.ev G s = .d (strs l)) (hb : b.ev G s = i64 k) (hk : k < l.length) : ev G s (.iaddr 1 a b) = some (.elt [.str (l.getD k (bs []))]) := by
  rw [iaddr_strs ha hb hk, List.getD_eq_getElem?_getD, List.getElem?_eq_getElem hk]; rfl
def manyOf (k : Int) (n : List ByteArray) : Nat := if k = 5 then 1 else if k = 6 ∨ k = 8 then n.length else 0
/-- Is the form wrong, ahead of the names? -/
def formE (k m : Int) (n : List ByteArray) (o : Nat) (deep : Int) : Int :=
  if k ≥ 10 ∨ deep < 1 then 5 else if ((k = 4 ∨ k = 5) ∧ (m < 1 ∨ m > 60)) ∨ (¬ (k = 4 ∨ k = 5) ∧ m ≠ 0) then 2
  else if o ≠ manyOf k n ∨ (k ≤ 5 ∧ n.length > 0) ∨ (k = 9 ∧ n.length ≠ 1) then 4 else 0
/-- Are the names wrong? -/
def nameE (k : Int) (n known : List ByteArray) : Int :=
  if 6 ≤ k ∧ k ≤ 8 ∧ namesM n ≠ 0 then namesM n else if k = 9 ∧ smem (n.getD 0 (bs [])) known = false then 10 else 0
mutual
def KT.check : KT → Int → List ByteArray → Int
  | .mk k m n o, deep, known => if formE k m n o.length deep ≠ 0 then formE k m n o.length deep else if nameE k n known ≠ 0 then nameE k n known else KT.checks o (deep - 1) known
def KT.checks : List KT → Int → List ByteArray → Int
  | [], _, _ => 0
  | t :: ts, deep, known => if t.check deep known ≠ 0 then t.check deep known else KT.checks ts deep known
end
mutual
def KT.fit : KT → Prop
  | .mk _ _ n o => fitS n ∧ o.length < 2 ^ 40 ∧ KT.fits o
def KT.fits : List KT → Prop
  | [] => True
  | t :: ts => t.fit ∧ KT.fits ts
end
theorem KT.fits_mem : ∀ {l : List KT}, KT.fits l → ∀ t ∈ l, t.fit
  | [], _, _, h => by cases h
  | u :: us, h, t, ht => by
    rcases List.mem_cons.1 ht with rfl | ht
    · exact h.1
    · exact KT.fits_mem h.2 t ht
theorem KT.checks_zero {l : List KT} {d : Int} {known : List ByteArray} : KT.checks l d known = 0 ↔ ∀ t ∈ l, t.check d known = 0 := by
  induction l with
  | nil => simp [KT.checks]
  | cons t ts ih =>
    simp only [KT.checks, List.mem_cons, forall_eq_or_imp]
    split
    · rename_i h; exact ⟨fun e => absurd e h, fun e => absurd e.1 h⟩
    · rename_i h; rw [ih]; exact ⟨fun e => ⟨by simpa using h, e⟩, fun e => e.2⟩
theorem KT.checks_first {l : List KT} {d : Int} {known : List ByteArray} {k : Nat} (hk : k < l.length) (h0 : ∀ t ∈ l.take k, t.check d known = 0) (h : l[k].check d known ≠ 0) : KT.checks l d known = l[k].check d known := by
  induction l generalizing k with
  | nil => cases hk
  | cons t ts ih =>
    cases k with
    | zero => simp only [KT.checks, List.getElem_cons_zero] at h ⊢; rw [if_pos h]
    | succ k =>
      have ht : t.check d known = 0 := h0 t (by simp)
      simp only [KT.checks, ht, List.getElem_cons_succ] at h ⊢
      rw [if_neg (by simp)]
      exact ih (by simpa using hk) (fun u hu => h0 u (by simp [hu])) h
theorem seqB_iff {x y : ByteArray} : seqB x y = true ↔ x = y := by
  unfold seqB
  rw [beq_iff_eq, ByteArray.toList_eq, ByteArray.toList_eq]
  constructor
  · intro h
    obtain ⟨⟨a⟩⟩ := x
    obtain ⟨⟨b⟩⟩ := y
    simp at h
    rw [h]
  · rintro rfl; rfl
/-- Two rows alike, one by one. -/
def eqAll {α : Type} (e : α → α → Bool) : List α → List α → Bool
  | [], [] => true
  | x :: xs, y :: ys => e x y && eqAll e xs ys
  | _, _ => false
theorem eqAll_len {α : Type} {e : α → α → Bool} : ∀ {l k : List α}, eqAll e l k = true → l.length = k.length
  | [], [], _ => rfl
  | x :: xs, y :: ys, h => by simp only [eqAll, Bool.and_eq_true] at h; simp [eqAll_len h.2]
  | [], _ :: _, h => by cases h
  | _ :: _, [], h => by cases h
theorem eqAll_first {α : Type} {e : α → α → Bool} : ∀ {l k : List α} {i : Nat} (h1 : i < l.length) (h2 : i < k.length), e l[i] k[i] = false → eqAll e l k = false
  | x :: xs, y :: ys, 0, _, _, h => by simp only [List.getElem_cons_zero] at h; simp [eqAll, h]
  | x :: xs, y :: ys, i + 1, h1, h2, h => by
    simp only [List.getElem_cons_succ] at h
    have := eqAll_first (l := xs) (k := ys) (by simpa using h1) (by simpa using h2) h
    simp [eqAll, this]
theorem eqAll_all {α : Type} {e : α → α → Bool} : ∀ {l k : List α}, l.length = k.length → (∀ i (h1 : i < l.length) (h2 : i < k.length), e l[i] k[i] = true) → eqAll e l k = true
  | [], [], _, _ => rfl
  | x :: xs, y :: ys, hl, h => by
    simp only [eqAll, Bool.and_eq_true]
    exact ⟨h 0 (by simp) (by simp), eqAll_all (by simpa using hl) fun i h1 h2 => h (i + 1) (by simpa using h1) (by simpa using h2)⟩
mutual
def KT.same : KT → KT → Bool
  | .mk k m n o, .mk k' m' n' o' => (k == k') && (m == m') && eqAll seqB n n' && KT.sames o o'
def KT.sames : List KT → List KT → Bool
  | [], [] => true
  | x :: xs, y :: ys => KT.same x y && KT.sames xs ys
  | _, _ => false
end
theorem KT.sames_all : ∀ l k : List KT, KT.sames l k = eqAll KT.same l k
  | [], [] => rfl
  | x :: xs, y :: ys => by simp [KT.sames, eqAll, KT.sames_all xs ys]
  | [], _ :: _ => rfl
  | _ :: _, [] => rfl
end Go.Pv
/- Small types, as the laws draw them, as data. No condition. -/
namespace Go.Pv

/-- A row, by what is told of it. -/
def KT.cs (t : KT) : List Dat := [.int .u8 t.kind, .int .i64 t.most, .sl (t.names.map fun s => [.str s]), .sl (t.of.map KT.row)]
theorem KT.row_eq (t : KT) : t.row = t.cs := by
  obtain ⟨k, m, n, o⟩ := t
  simp [KT.row, KT.cs, KT.kind, KT.most, KT.names, KT.of, KT.rows_map, strs, srows]
theorem KT.av_eq (t : KT) : t.av = .agg [.d (.int .u8 t.kind), .d (.int .i64 t.most), .d (.sl (t.names.map fun s => [.str s])), .d (.sl (t.of.map KT.row))] := by
  rw [KT.av, KT.row_eq]; rfl

theorem ktp : (∀ k m n o, (KT.mk k m n o).kind = k) ∧ (∀ k m n o, (KT.mk k m n o).most = m) ∧ (∀ k m n o, (KT.mk k m n o).names = n) ∧ (∀ k m n o, (KT.mk k m n o).of = o) := ⟨fun _ _ _ _ => rfl, fun _ _ _ _ => rfl, fun _ _ _ _ => rfl, fun _ _ _ _ => rfl⟩
/-- A small type. -/
inductive Nd where
  | mk (kind n : Int) (of : List Nd)
namespace Nd
def kind : Nd → Int | mk k _ _ => k
def n : Nd → Int | mk _ n _ => n
def of : Nd → List Nd | mk _ _ o => o
end Nd
theorem Nd.ind {P : Nd → Prop} (h : ∀ k n o, (∀ x ∈ o, P x) → P (.mk k n o)) : ∀ t, P t
  | .mk k n o => h k n o fun x _ => Nd.ind h x
theorem Nd.ind' {P : Nd → Prop} (h : ∀ t : Nd, (∀ x ∈ t.of, P x) → P t) : ∀ t, P t := fun t => Nd.ind (fun k n o ho => h (.mk k n o) ho) t
theorem KT.ind' {P : KT → Prop} (h : ∀ t : KT, (∀ x ∈ t.of, P x) → P t) : ∀ t, P t := fun t => KT.ind (fun k m n o ho => h (.mk k m n o) ho) t
mutual
def Nd.row : Nd → List Dat
  | .mk k n o => [.int .u8 k, .int .u8 n, .sl (Nd.rows o)]
def Nd.rows : List Nd → List (List Dat)
  | [] => []
  | t :: ts => t.row :: Nd.rows ts
end
theorem Nd.rows_map : ∀ l, Nd.rows l = l.map Nd.row
  | [] => rfl
  | t :: ts => by simp [Nd.rows, Nd.rows_map ts]
theorem Nd.row_len : ∀ t : Nd, t.row.length = 3 | .mk .. => rfl
def Nd.cs (t : Nd) : List Dat := [.int .u8 t.kind, .int .u8 t.n, .sl (t.of.map Nd.row)]
theorem Nd.row_eq (t : Nd) : t.row = t.cs := by
  obtain ⟨k, n, o⟩ := t
  simp [Nd.row, Nd.cs, Nd.kind, Nd.n, Nd.of, Nd.rows_map]
abbrev Nd.av (t : Nd) : AV := .agg [.d (.int .u8 t.kind), .d (.int .u8 t.n), .d (.sl (t.of.map Nd.row))]
theorem Nd.row_av (t : Nd) : t.row.map AV.d = [.d (.int .u8 t.kind), .d (.int .u8 t.n), .d (.sl (t.of.map Nd.row))] := by rw [Nd.row_eq]; rfl
theorem KT.row_av (t : KT) : t.row.map AV.d = [.d (.int .u8 t.kind), .d (.int .i64 t.most), .d (.sl (t.names.map fun s => [.str s])), .d (.sl (t.of.map KT.row))] := by rw [KT.row_eq]; rfl

mutual
def Nd.fit : Nd → Prop
  | .mk k n o => (0 ≤ k ∧ k ≤ 255) ∧ (0 ≤ n ∧ n ≤ 255) ∧ o.length < 2 ^ 63 ∧ Nd.fits o
def Nd.fits : List Nd → Prop
  | [] => True
  | t :: ts => t.fit ∧ Nd.fits ts
end
theorem Nd.fits_mem : ∀ {l : List Nd}, Nd.fits l ↔ ∀ t ∈ l, t.fit
  | [] => ⟨fun _ _ h => (by cases h), fun _ => trivial⟩
  | u :: us => by simp [Nd.fits, Nd.fits_mem (l := us)]
theorem Nd.fit_eq (t : Nd) : t.fit ↔ (0 ≤ t.kind ∧ t.kind ≤ 255) ∧ (0 ≤ t.n ∧ t.n ≤ 255) ∧ t.of.length < 2 ^ 63 ∧ ∀ x ∈ t.of, x.fit := by
  obtain ⟨k, n, o⟩ := t
  simp [Nd.fit, Nd.kind, Nd.n, Nd.of, Nd.fits_mem]

mutual
def Nd.light : Nd → Int → Bool
  | .mk _ _ o, d => (o.isEmpty || (decide (1 ≤ d) && Nd.lights o (d - 1))) && decide (o.length ≤ 3)
def Nd.lights : List Nd → Int → Bool
  | [], _ => true
  | t :: ts, d => t.light d && Nd.lights ts d
end
theorem Nd.lights_all : ∀ (l : List Nd) (d : Int), Nd.lights l d = l.all fun t => t.light d
  | [], _ => rfl
  | t :: ts, d => by simp [Nd.lights, Nd.lights_all ts d]
theorem Nd.light_eq (t : Nd) (d : Int) : t.light d = ((t.of.isEmpty || (decide (1 ≤ d) && t.of.all fun x => x.light (d - 1))) && decide (t.of.length ≤ 3)) := by
  obtain ⟨k, n, o⟩ := t
  simp only [Nd.light, Nd.of, Nd.lights_all]; rfl

/-- A procedure, an interface, by small numbers. -/
structure Pr where
  takes : Nd
  answers : Nd
  collate : Int
  timeout : Int
abbrev Pr.row (p : Pr) : List Dat := [.int .u8 p.takes.kind, .int .u8 p.takes.n, .sl (p.takes.of.map Nd.row), .int .u8 p.answers.kind, .int .u8 p.answers.n, .sl (p.answers.of.map Nd.row), .int .u8 p.collate, .int .u16 p.timeout]
theorem Pr.row_av (p : Pr) : p.row.map AV.d = [.d (.int .u8 p.takes.kind), .d (.int .u8 p.takes.n), .d (.sl (p.takes.of.map Nd.row)), .d (.int .u8 p.answers.kind), .d (.int .u8 p.answers.n), .d (.sl (p.answers.of.map Nd.row)), .d (.int .u8 p.collate), .d (.int .u16 p.timeout)] := rfl
structure Sm where
  number : Int
  aliases : List Nd
  faults : Int
  procs : List Pr
abbrev Sm.av (s : Sm) : AV := .agg [.d (.int .u16 s.number), .d (.sl (s.aliases.map Nd.row)), .d (.int .u8 s.faults), .d (.sl (s.procs.map Pr.row))]
def Pr.fit (p : Pr) : Prop := p.takes.fit ∧ p.answers.fit ∧ (0 ≤ p.collate ∧ p.collate ≤ 255) ∧ 0 ≤ p.timeout ∧ p.timeout ≤ 65535
structure Sm.fit (s : Sm) : Prop where
  number : 0 ≤ s.number ∧ s.number ≤ 65535
  many : s.aliases.length < 2 ^ 63
  aliases : ∀ a ∈ s.aliases, a.fit
  faults : 0 ≤ s.faults ∧ s.faults ≤ 255
  many' : s.procs.length < 2 ^ 63
  procs : ∀ p ∈ s.procs, p.fit
def Sm.light (s : Sm) : Bool := s.aliases.all (fun a => a.light 3) && s.procs.all (fun p => p.takes.light 3 && p.answers.light 3) && decide (s.aliases.length ≤ 10) && decide (s.procs.length ≤ 10)

/-- A name. -/
def nameOf (i : Nat) (n : Int) : ByteArray := bs [97 + i % 26, (65 + n % 26).toNat, 48 + i / 26 % 10]

/-- The type that a small one stands for: so deep at most, of what is known. -/
def Nd.kd (t : Nd) (deep : Nat) (known : List ByteArray) : Int :=
  if (t.kind % 10 = 9 ∧ known.length = 0) ∨ (deep ≤ 1 ∧ (t.kind % 10 = 5 ∨ t.kind % 10 = 6 ∨ t.kind % 10 = 8)) then 1 else t.kind % 10
def Nd.subW (f : Nd → KT) (x : Nd) (i : Nat) : KT := match x.of[i % x.of.length]? with | none => .mk (i % 4 : Nat) 0 [] [] | some y => f y
def Nd.many (t : Nd) : Nat := 1 + (t.n % 3).toNat
/-- The type of a kind, its parts as 'sub' gives them. -/
def Nd.typW (t : Nd) (k : Int) (known : List ByteArray) (sub : Nat → KT) : KT :=
  if k = 4 then .mk 4 (1 + t.n % 60) [] []
  else if k = 5 then .mk 5 (1 + t.n % 60) [] [sub 0]
  else if k = 6 ∨ k = 8 then .mk k 0 ((List.range t.many).map fun i => nameOf i t.n) ((List.range t.many).map sub)
  else if k = 7 then .mk 7 0 ((List.range t.many).map fun i => nameOf i t.n) []
  else if k = 9 then .mk 9 0 [known.getD (t.n.toNat % known.length) (bs [])] []
  else .mk k 0 [] []
def Nd.typ : Nat → Nd → List ByteArray → KT
  | 0, t, known => t.typW (t.kd 0 known) known fun _ => .mk 0 0 [] []
  | d + 1, t, known => t.typW (t.kd (d + 1) known) known (Nd.subW (fun y => Nd.typ d y known) t)
theorem Nd.kd_ge {t : Nd} {deep : Nat} {known : List ByteArray} : 0 ≤ t.kd deep known ∧ t.kd deep known ≤ 9 := by
  unfold Nd.kd
  split <;> omega
end Go.Pv
/- Tables as data. No condition. -/
namespace Go.Pv

/-- A name for a type. -/
structure Al where
  name : ByteArray
  ty : KT
def Al.row (a : Al) : List Dat := .str a.name :: a.ty.row
def alRows (l : List Al) : Dat := .sl (l.map Al.row)
theorem Al.row_len (a : Al) : a.row.length = 5 := by simp [Al.row, KT.row_len]
def KT.zero : KT := .mk 0 0 [] []
def foldW (f : KT → Int → (KT × Int) × Int) : List KT → Int → (List KT × Int) × Int
  | [], left => (([], 0), left)
  | o :: os, left =>
    if (f o left).1.2 ≠ 0 then (([], (f o left).1.2), (f o left).2)
    else if (foldW f os (f o left).2).1.2 ≠ 0 then (([], (foldW f os (f o left).2).1.2), (foldW f os (f o left).2).2)
    else (((f o left).1.1 :: (foldW f os (f o left).2).1.1, 0), (foldW f os (f o left).2).2)
def refAt (types : List Al) (n : List ByteArray) : Nat := types.findIdx fun a => decide (n.length = 1) && seqB a.name (n.getD 0 (bs []))
def wholeM : Nat → List Al → KT → Int → (KT × Int) × Int
  | 0, _, _, left => ((KT.zero, 5), left)
  | d + 1, types, x, left =>
    if x.kind = 9 then
      match types[refAt types x.names]? with
      | some a => wholeM d (types.take (refAt types x.names)) a.ty left
      | none => ((KT.zero, 10), left)
    else if left - 1 < 0 then ((KT.zero, 6), left - 1)
    else if (foldW (wholeM d types) x.of (left - 1)).1.2 ≠ 0 then ((KT.zero, (foldW (wholeM d types) x.of (left - 1)).1.2), (foldW (wholeM d types) x.of (left - 1)).2)
    else ((.mk x.kind x.most x.names (foldW (wholeM d types) x.of (left - 1)).1.1, 0), (foldW (wholeM d types) x.of (left - 1)).2)
/-- Small enough to be copied. -/
def fitA (l : List Al) : Prop := l.length < 2 ^ 40 ∧ ∀ a ∈ l, a.ty.fit
theorem foldW_left {f : KT → Int → (KT × Int) × Int} (hf : ∀ x left, 0 ≤ left → -1 ≤ (f x left).2 ∧ (f x left).2 ≤ left ∧ ((f x left).1.2 = 0 → 0 ≤ (f x left).2)) : ∀ (l : List KT) (left : Int), 0 ≤ left →
    -1 ≤ (foldW f l left).2 ∧ (foldW f l left).2 ≤ left ∧ ((foldW f l left).1.2 = 0 → 0 ≤ (foldW f l left).2)
  | [], left, h => ⟨by simp only [foldW]; omega, Int.le_refl _, fun _ => h⟩
  | x :: xs, left, h => by
    obtain ⟨h1, h2, h3⟩ := hf x left h
    unfold foldW
    split
    · rename_i he; exact ⟨h1, h2, fun e => absurd e he⟩
    · rename_i he
      have h4 := h3 (by simpa using he)
      obtain ⟨k1, k2, k3⟩ := foldW_left hf xs _ h4
      split
      · rename_i he'; exact ⟨k1, by simp only; omega, fun e => absurd e he'⟩
      · rename_i he'; exact ⟨k1, by simp only; omega, fun _ => k3 (by simpa using he')⟩
theorem wholeM_left : ∀ (d : Nat) (types : List Al) (x : KT) (left : Int), 0 ≤ left → -1 ≤ (wholeM d types x left).2 ∧ (wholeM d types x left).2 ≤ left ∧ ((wholeM d types x left).1.2 = 0 → 0 ≤ (wholeM d types x left).2)
  | 0, types, x, left, h => ⟨by simp only [wholeM]; omega, Int.le_refl _, fun _ => h⟩
  | d + 1, types, x, left, h => by
    unfold wholeM
    split
    · split
      · exact wholeM_left d _ _ left h
      · exact ⟨by simp only; omega, Int.le_refl _, fun _ => h⟩
    · split
      · rename_i h1; exact ⟨by simp only; omega, by simp only; omega, fun e => by cases e⟩
      · rename_i h1
        obtain ⟨k1, k2, k3⟩ := foldW_left (fun y l hl => wholeM_left d types y l hl) x.of (left - 1) (by omega)
        split
        · rename_i he; exact ⟨k1, by simp only; omega, fun e => absurd e he⟩
        · rename_i he; exact ⟨k1, by simp only; omega, fun _ => k3 (by simpa using he)⟩
theorem foldW_snoc {f : KT → Int → (KT × Int) × Int} : ∀ {l : List KT} {left : Int} {outs : List KT} {l1 : Int} {x : KT}, foldW f l left = ((outs, 0), l1) →
    foldW f (l ++ [x]) left = if (f x l1).1.2 ≠ 0 then (([], (f x l1).1.2), (f x l1).2) else ((outs ++ [(f x l1).1.1], 0), (f x l1).2)
  | [], left, outs, l1, x, h => by
    simp only [foldW, Prod.mk.injEq] at h
    obtain ⟨⟨rfl, _⟩, rfl⟩ := h
    simp only [List.nil_append, foldW]
    split
    · rfl
    · simp
  | y :: ys, left, outs, l1, x, h => by
    simp only [foldW] at h
    split at h
    · rename_i he; simp only [Prod.mk.injEq] at h; exact absurd h.1.2 he
    · rename_i he
      split at h
      · rename_i he'; simp only [Prod.mk.injEq] at h; exact absurd h.1.2 he'
      · rename_i he'
        simp only [Prod.mk.injEq] at h
        obtain ⟨⟨rfl, _⟩, rfl⟩ := h
        have hz : foldW f ys (f y left).2 = (((foldW f ys (f y left).2).1.1, 0), (foldW f ys (f y left).2).2) := by
          have : (foldW f ys (f y left).2).1.2 = 0 := by simpa using he'
          rw [← this]
        have ih := foldW_snoc (x := x) hz
        simp only [List.cons_append, foldW, if_neg he]
        rw [ih]
        split
        · rfl
        · first | rfl | (rw [if_neg (by simp)])
theorem foldW_stop {f : KT → Int → (KT × Int) × Int} : ∀ {l k : List KT} {left : Int}, (foldW f l left).1.2 ≠ 0 → foldW f (l ++ k) left = (([], (foldW f l left).1.2), (foldW f l left).2)
  | [], k, left, h => by simp [foldW] at h
  | y :: ys, k, left, h => by
    simp only [foldW, List.cons_append] at h ⊢
    split
    · rename_i he; rfl
    · rename_i he
      rw [if_neg he] at h
      have hz : (foldW f ys (f y left).2).1.2 ≠ 0 := by
        intro e
        rw [if_neg (by simp [e])] at h
        exact h rfl
      rw [foldW_stop (k := k) hz]
      simp only [if_pos hz]
theorem wholeM_ref {d : Nat} {types : List Al} {m : Int} {n : List ByteArray} {o : List KT} {left : Int} {i : Nat} (hi : i < types.length) (h : refAt types n = i) : wholeM (d + 1) types (.mk 9 m n o) left = wholeM d (types.take i) types[i].ty left := by
  rw [wholeM]
  simp only [KT.kind, KT.names, if_true, h, List.getElem?_eq_getElem hi]
theorem wholeM_none {d : Nat} {types : List Al} {m : Int} {n : List ByteArray} {o : List KT} {left : Int} (h : ¬ refAt types n < types.length) : wholeM (d + 1) types (.mk 9 m n o) left = ((KT.zero, 10), left) := by
  rw [wholeM]
  simp only [KT.kind, KT.names, if_true, List.getElem?_eq_none (Nat.le_of_not_lt h)]
theorem wholeM_rec {d : Nat} {types : List Al} {k m : Int} {n : List ByteArray} {o : List KT} {left : Int} (hk : k ≠ 9) (hl : ¬ left - 1 < 0) {outs : List KT} {e l : Int} (h : foldW (wholeM d types) o (left - 1) = ((outs, e), l)) :
    wholeM (d + 1) types (.mk k m n o) left = if e ≠ 0 then ((KT.zero, e), l) else ((.mk k m n outs, 0), l) := by
  rw [wholeM]
  simp only [KT.kind, KT.names, KT.of, KT.most, if_neg hk, if_neg hl, h]
theorem wholeM_out {d : Nat} {types : List Al} {k m : Int} {n : List ByteArray} {o : List KT} {left : Int} (hk : k ≠ 9) (hl : left - 1 < 0) : wholeM (d + 1) types (.mk k m n o) left = ((KT.zero, 6), left - 1) := by
  rw [wholeM]
  simp only [KT.kind, KT.names, if_neg hk, if_pos hl]
theorem zero_av : KT.zero.av = .agg [.d (.int .u8 0), .d (.int .i64 0), .d (.sl []), .d (.sl [])] := by simp [KT.zero, KT.av, KT.row, KT.rows, strs, srows]
/-- May a name be one more? -/
def freshE (s : ByteArray) (all : List ByteArray) : Int := if isName s = false then 8 else if smem s all = true then 9 else 0
/-- As 'Check' answers of a table that has names for types alone. -/
def typesE : List Al → List ByteArray → Int
  | [], _ => 0
  | a :: rest, known => if freshE a.name known ≠ 0 then freshE a.name known else if a.ty.check 5 known ≠ 0 then a.ty.check 5 known else typesE rest (known ++ [a.name])
def tableE (name : ByteArray) (number version : Int) (types : List Al) : Int :=
  if isName name = false then 8 else if (inNum number && inNum version) = false then 2 else if types.length > 16 then 7 else typesE types []
theorem typesE_first {l : List Al} {known : List ByteArray} {k : Nat} (hk : k < l.length) : typesE (l.take k) known = 0 →
    typesE l known = typesE (l.drop k) (known ++ (l.take k).map Al.name) := by
  intro h
  induction k generalizing l known with
  | zero => simp
  | succ k ih =>
    cases l with
    | nil => cases hk
    | cons a rest =>
      simp only [List.take_succ_cons, typesE] at h
      split at h
      · rename_i e; exact absurd h e
      · rename_i e
        split at h
        · rename_i e'; exact absurd h e'
        · rename_i e'
          simp only [typesE, if_neg e, if_neg e', List.drop_succ_cons, List.take_succ_cons, List.map_cons]
          rw [ih (by simpa using hk) h]
          simp
theorem typesE_snoc {l : List Al} {known : List ByteArray} {a : Al} : typesE l known = 0 → typesE (l ++ [a]) known = typesE [a] (known ++ l.map Al.name) := by
  intro h
  induction l generalizing known with
  | nil => simp
  | cons b bs ih =>
    simp only [typesE] at h
    split at h
    · rename_i e; exact absurd h e
    · rename_i e
      split at h
      · rename_i e'; exact absurd h e'
      · rename_i e'
        simp only [List.cons_append, typesE, if_neg e, if_neg e']
        rw [show typesE (bs ++ [a]) (known ++ [b.name]) = _ from ih h]
        simp [typesE]
theorem typesE_stop {l k : List Al} {known : List ByteArray} : typesE l known ≠ 0 → typesE (l ++ k) known = typesE l known := by
  intro h
  induction l generalizing known with
  | nil => exact absurd rfl h
  | cons b bs ih =>
    simp only [List.cons_append, typesE] at h ⊢
    split
    · rfl
    · rename_i e
      rw [if_neg e] at h
      split
      · rfl
      · rename_i e'
        rw [if_neg e'] at h
        exact ih h
theorem typesE_at {l : List Al} {i : Nat} (hi : i < l.length) (h : typesE (l.take i) [] = 0) : typesE (l.take (i + 1)) [] = typesE [l[i]] ((l.take i).map Al.name) ∧ (typesE [l[i]] ((l.take i).map Al.name) ≠ 0 → typesE l [] = typesE [l[i]] ((l.take i).map Al.name)) := by
  have h1 : typesE (l.take (i + 1)) [] = typesE [l[i]] ((l.take i).map Al.name) := by
    rw [List.take_succ_eq_append_getElem hi, typesE_snoc h]
    rfl
  refine ⟨h1, fun hne => ?_⟩
  have := typesE_stop (k := l.drop (i + 1)) (h1 ▸ hne)
  rwa [List.take_append_drop, h1] at this
end Go.Pv
/- Whole tables as data, and the ones that small numbers stand for. No condition. -/
namespace Go.Pv

theorem Al.row_eq (a : Al) : a.row = [.str a.name, .int .u8 a.ty.kind, .int .i64 a.ty.most, .sl (a.ty.names.map fun s => [.str s]), .sl (a.ty.of.map KT.row)] := by rw [Al.row, KT.row_eq]; rfl
theorem Al.row_av (a : Al) : a.row.map AV.d = [.d (.str a.name), .d (.int .u8 a.ty.kind), .d (.int .i64 a.ty.most), .d (.sl (a.ty.names.map fun s => [.str s])), .d (.sl (a.ty.of.map KT.row))] := by rw [Al.row_eq]; rfl
structure Fl where
  name : ByteArray
  number : Int
abbrev Fl.row (f : Fl) : List Dat := [.str f.name, .int .i64 f.number]
theorem Fl.row_av (f : Fl) : f.row.map AV.d = [.d (.str f.name), .d (.int .i64 f.number)] := rfl
structure Pc where
  name : ByteArray
  number : Int
  takes : KT
  answers : KT
  collate : Int
  timeout : Int
abbrev Pc.row (p : Pc) : List Dat := [.str p.name, .int .i64 p.number, .int .u8 p.takes.kind, .int .i64 p.takes.most, .sl (p.takes.names.map fun s => [.str s]), .sl (p.takes.of.map KT.row), .int .u8 p.answers.kind, .int .i64 p.answers.most, .sl (p.answers.names.map fun s => [.str s]), .sl (p.answers.of.map KT.row), .int .u8 p.collate, .int .i64 p.timeout]
theorem Pc.row_av (p : Pc) : p.row.map AV.d = [.d (.str p.name), .d (.int .i64 p.number), .d (.int .u8 p.takes.kind), .d (.int .i64 p.takes.most), .d (.sl (p.takes.names.map fun s => [.str s])), .d (.sl (p.takes.of.map KT.row)), .d (.int .u8 p.answers.kind), .d (.int .i64 p.answers.most), .d (.sl (p.answers.names.map fun s => [.str s])), .d (.sl (p.answers.of.map KT.row)), .d (.int .u8 p.collate), .d (.int .i64 p.timeout)] := rfl
structure TB where
  name : ByteArray
  number : Int
  version : Int
  types : List Al
  faults : List Fl
  procs : List Pc
abbrev TB.av (t : TB) : AV := .agg [.d (.str t.name), .d (.int .i64 t.number), .d (.int .i64 t.version), .d (.sl (t.types.map Al.row)), .d (.sl (t.faults.map Fl.row)), .d (.sl (t.procs.map Pc.row))]

def face : ByteArray := bs [102, 97, 99, 101]
def Nd.zero : Nd := .mk 0 0 []
theorem name_fits (c : Nat) (i : Nat) (n : Int) : (bs [c]).size + (nameOf i n).size ≤ 9223372036854775807 := by show (1 + 3 : Nat) ≤ _; decide
def tname (i : Nat) : ByteArray := bs [84] ++ nameOf i 3
def ename (i : Nat) : ByteArray := bs [69] ++ nameOf i 5
def pname (i : Nat) : ByteArray := bs [80] ++ nameOf i 7
def known (i : Nat) : List ByteArray := (List.range i).map tname
def Sm.al (s : Sm) (i : Nat) : Al := ⟨tname i, Nd.typ 3 (s.aliases.getD i Nd.zero) (known i)⟩
def flOf (i : Nat) : Fl := ⟨ename i, 10 * i⟩
def Sm.as (s : Sm) : Nat := min s.aliases.length 4
def Sm.pc (s : Sm) (i : Nat) : Pc :=
  let p := s.procs.getD i ⟨Nd.zero, Nd.zero, 0, 0⟩
  ⟨pname i, i + s.number % 9, Nd.typ 3 p.takes (known s.as), Nd.typ 3 p.answers (known s.as), p.collate % 3, 1 + p.timeout % 1000⟩
def Sm.fs (s : Sm) : Nat := (s.faults % 4).toNat
def Sm.ps (s : Sm) : Nat := min s.procs.length 4
def Sm.tb (s : Sm) : TB := ⟨face, s.number, s.number % 7, (List.range s.as).map s.al, (List.range s.fs).map flOf, (List.range s.ps).map s.pc⟩
theorem getD_of {α : Type} {l : List α} {k : Nat} {y d : α} (h : l[k]? = some y) : l.getD k d = y := by rw [List.getD_eq_getElem?_getD, h]; rfl
theorem range_snoc {α : Type} (f : Nat → α) (k : Nat) : (List.range (k + 1)).map f = (List.range k).map f ++ [f k] := by rw [List.range_succ, List.map_append]; rfl
end Go.Pv
/- What a table's check answers, as data. No condition. -/
namespace Go.Pv

theorem drop_at {α : Type} {l : List α} {k : Nat} {y : α} (h : l[k]? = some y) : l.drop k = y :: l.drop (k + 1) := by
  obtain ⟨hk, rfl⟩ := List.getElem?_eq_some_iff.1 h
  exact List.drop_eq_getElem_cons hk
theorem map_take_snoc {α β : Type} {l : List α} {k : Nat} {y : α} (f : α → β) (h : l[k]? = some y) : (l.take (k + 1)).map f = (l.take k).map f ++ [f y] := by
  rw [take_snoc h, List.map_append]; rfl

def faultsE : List Fl → List ByteArray → List Int → Int
  | [], _, _ => 0
  | f :: fs, all, nums => if freshE f.name all ≠ 0 then freshE f.name all else if inNum f.number = false then 2 else if f.number ∈ nums then 9 else faultsE fs (all ++ [f.name]) (nums ++ [f.number])
def partsE (types : List Al) (known : List ByteArray) : List KT → Int
  | [] => 0
  | x :: xs => if x.check 5 known ≠ 0 then x.check 5 known else if (wholeM 20 types x 200).1.2 ≠ 0 then (wholeM 20 types x 200).1.2 else partsE types known xs
def numsE (p : Pc) : Bool := !inNum p.number || decide (p.timeout < 1) || decide (p.timeout > 1000) || decide (p.collate ≥ 3)
def procsE (types : List Al) (known : List ByteArray) : List Pc → List ByteArray → List Int → Int
  | [], _, _ => 0
  | p :: ps, all, nums => if freshE p.name all ≠ 0 then freshE p.name all else if numsE p = true then 2 else if p.number ∈ nums then 9 else if partsE types known [p.takes, p.answers] ≠ 0 then partsE types known [p.takes, p.answers] else procsE types known ps (all ++ [p.name]) (nums ++ [p.number])
def TB.names (t : TB) : List ByteArray := t.types.map Al.name
def TB.check (t : TB) : Int :=
  if isName t.name = false then 8 else if (inNum t.number && inNum t.version) = false then 2 else if t.types.length > 16 ∨ t.faults.length > 16 ∨ t.procs.length > 16 then 7
  else if typesE t.types [] ≠ 0 then typesE t.types [] else if faultsE t.faults t.names [] ≠ 0 then faultsE t.faults t.names [] else procsE t.types t.names t.procs (t.names ++ t.faults.map Fl.name) []

structure TB.fit (t : TB) : Prop where
  name : t.name.size < 2 ^ 60
  types : fitA t.types
  tnames : ∀ a ∈ t.types, a.name.size < 2 ^ 60
  faults : t.faults.length < 2 ^ 40
  fnames : ∀ f ∈ t.faults, f.name.size < 2 ^ 60
  procs : t.procs.length < 2 ^ 40
  pnames : ∀ p ∈ t.procs, p.name.size < 2 ^ 60
  pfit : ∀ p ∈ t.procs, p.takes.fit ∧ p.answers.fit
abbrev isD (l : List Int) : Dat := .sl (l.map fun n => [.int .i64 n])
end Go.Pv
