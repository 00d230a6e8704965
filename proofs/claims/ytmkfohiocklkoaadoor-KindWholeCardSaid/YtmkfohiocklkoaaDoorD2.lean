/- Small types, as the laws draw them, as data. No condition. -/
import Derived.Test.YtmkfohiocklkoaaDoorD1
namespace Go.Pv

/-- A row, by what is told of it. -/
def KT.cs (t : KT) : List Dat := [.int .u8 t.kind, .int .i64 t.most, .sl (t.names.map fun s => [.str s]), .sl (t.of.map KT.row)]
theorem KT.row_eq (t : KT) : t.row = t.cs := by
  obtain ⟨k, m, n, o⟩ := t
  simp [KT.row, KT.cs, KT.kind, KT.most, KT.names, KT.of, KT.rows_map, strs, srows]
theorem KT.av_eq (t : KT) : t.av = .agg [.d (.int .u8 t.kind), .d (.int .i64 t.most), .d (.sl (t.names.map fun s => [.str s])), .d (.sl (t.of.map KT.row))] := by
  rw [KT.av, KT.row_eq]; rfl

theorem ktp : (∀ k m n o, (KT.mk k m n o).kind = k) ∧ (∀ k m n o, (KT.mk k m n o).most = m) ∧ (∀ k m n o, (KT.mk k m n o).names = n) ∧ (∀ k m n o, (KT.mk k m n o).of = o) := ⟨fun _ _ _ _ => rfl, fun _ _ _ _ => rfl, fun _ _ _ _ => rfl, fun _ _ _ _ => rfl⟩
/-- A small type. -/
inductive Nd where
  | mk (kind n : Int) (of : List Nd)
namespace Nd
def kind : Nd → Int | mk k _ _ => k
def n : Nd → Int | mk _ n _ => n
def of : Nd → List Nd | mk _ _ o => o
end Nd
theorem Nd.ind {P : Nd → Prop} (h : ∀ k n o, (∀ x ∈ o, P x) → P (.mk k n o)) : ∀ t, P t
  | .mk k n o => h k n o fun x _ => Nd.ind h x
theorem Nd.ind' {P : Nd → Prop} (h : ∀ t : Nd, (∀ x ∈ t.of, P x) → P t) : ∀ t, P t := fun t => Nd.ind (fun k n o ho => h (.mk k n o) ho) t
theorem KT.ind' {P : KT → Prop} (h : ∀ t : KT, (∀ x ∈ t.of, P x) → P t) : ∀ t, P t := fun t => KT.ind (fun k m n o ho => h (.mk k m n o) ho) t
mutual
def Nd.row : Nd → List Dat
  | .mk k n o => [.int .u8 k, .int .u8 n, .sl (Nd.rows o)]
def Nd.rows : List Nd → List (List Dat)
  | [] => []
  | t :: ts => t.row :: Nd.rows ts
end
theorem Nd.rows_map : ∀ l, Nd.rows l = l.map Nd.row
  | [] => rfl
  | t :: ts => by simp [Nd.rows, Nd.rows_map ts]
theorem Nd.row_len : ∀ t : Nd, t.row.length = 3 | .mk .. => rfl
def Nd.cs (t : Nd) : List Dat := [.int .u8 t.kind, .int .u8 t.n, .sl (t.of.map Nd.row)]
theorem Nd.row_eq (t : Nd) : t.row = t.cs := by
  obtain ⟨k, n, o⟩ := t
  simp [Nd.row, Nd.cs, Nd.kind, Nd.n, Nd.of, Nd.rows_map]
abbrev Nd.av (t : Nd) : AV := .agg [.d (.int .u8 t.kind), .d (.int .u8 t.n), .d (.sl (t.of.map Nd.row))]
theorem Nd.row_av (t : Nd) : t.row.map AV.d = [.d (.int .u8 t.kind), .d (.int .u8 t.n), .d (.sl (t.of.map Nd.row))] := by rw [Nd.row_eq]; rfl
theorem KT.row_av (t : KT) : t.row.map AV.d = [.d (.int .u8 t.kind), .d (.int .i64 t.most), .d (.sl (t.names.map fun s => [.str s])), .d (.sl (t.of.map KT.row))] := by rw [KT.row_eq]; rfl

mutual
def Nd.fit : Nd → Prop
  | .mk k n o => (0 ≤ k ∧ k ≤ 255) ∧ (0 ≤ n ∧ n ≤ 255) ∧ o.length < 2 ^ 63 ∧ Nd.fits o
def Nd.fits : List Nd → Prop
  | [] => True
  | t :: ts => t.fit ∧ Nd.fits ts
end
theorem Nd.fits_mem : ∀ {l : List Nd}, Nd.fits l ↔ ∀ t ∈ l, t.fit
  | [] => ⟨fun _ _ h => (by cases h), fun _ => trivial⟩
  | u :: us => by simp [Nd.fits, Nd.fits_mem (l := us)]
theorem Nd.fit_eq (t : Nd) : t.fit ↔ (0 ≤ t.kind ∧ t.kind ≤ 255) ∧ (0 ≤ t.n ∧ t.n ≤ 255) ∧ t.of.length < 2 ^ 63 ∧ ∀ x ∈ t.of, x.fit := by
  obtain ⟨k, n, o⟩ := t
  simp [Nd.fit, Nd.kind, Nd.n, Nd.of, Nd.fits_mem]

mutual
def Nd.light : Nd → Int → Bool
  | .mk _ _ o, d => (o.isEmpty || (decide (1 ≤ d) && Nd.lights o (d - 1))) && decide (o.length ≤ 3)
def Nd.lights : List Nd → Int → Bool
  | [], _ => true
  | t :: ts, d => t.light d && Nd.lights ts d
end
theorem Nd.lights_all : ∀ (l : List Nd) (d : Int), Nd.lights l d = l.all fun t => t.light d
  | [], _ => rfl
  | t :: ts, d => by simp [Nd.lights, Nd.lights_all ts d]
theorem Nd.light_eq (t : Nd) (d : Int) : t.light d = ((t.of.isEmpty || (decide (1 ≤ d) && t.of.all fun x => x.light (d - 1))) && decide (t.of.length ≤ 3)) := by
  obtain ⟨k, n, o⟩ := t
  simp only [Nd.light, Nd.of, Nd.lights_all]; rfl

/-- A procedure, an interface, by small numbers. -/
structure Pr where
  takes : Nd
  answers : Nd
  collate : Int
  timeout : Int
abbrev Pr.row (p : Pr) : List Dat := [.int .u8 p.takes.kind, .int .u8 p.takes.n, .sl (p.takes.of.map Nd.row), .int .u8 p.answers.kind, .int .u8 p.answers.n, .sl (p.answers.of.map Nd.row), .int .u8 p.collate, .int .u16 p.timeout]
theorem Pr.row_av (p : Pr) : p.row.map AV.d = [.d (.int .u8 p.takes.kind), .d (.int .u8 p.takes.n), .d (.sl (p.takes.of.map Nd.row)), .d (.int .u8 p.answers.kind), .d (.int .u8 p.answers.n), .d (.sl (p.answers.of.map Nd.row)), .d (.int .u8 p.collate), .d (.int .u16 p.timeout)] := rfl
structure Sm where
  number : Int
  aliases : List Nd
  faults : Int
  procs : List Pr
abbrev Sm.av (s : Sm) : AV := .agg [.d (.int .u16 s.number), .d (.sl (s.aliases.map Nd.row)), .d (.int .u8 s.faults), .d (.sl (s.procs.map Pr.row))]
def Pr.fit (p : Pr) : Prop := p.takes.fit ∧ p.answers.fit ∧ (0 ≤ p.collate ∧ p.collate ≤ 255) ∧ 0 ≤ p.timeout ∧ p.timeout ≤ 65535
structure Sm.fit (s : Sm) : Prop where
  number : 0 ≤ s.number ∧ s.number ≤ 65535
  many : s.aliases.length < 2 ^ 63
  aliases : ∀ a ∈ s.aliases, a.fit
  faults : 0 ≤ s.faults ∧ s.faults ≤ 255
  many' : s.procs.length < 2 ^ 63
  procs : ∀ p ∈ s.procs, p.fit
def Sm.light (s : Sm) : Bool := s.aliases.all (fun a => a.light 3) && s.procs.all (fun p => p.takes.light 3 && p.answers.light 3) && decide (s.aliases.length ≤ 10) && decide (s.procs.length ≤ 10)

/-- A name. -/
def nameOf (i : Nat) (n : Int) : ByteArray := bs [97 + i % 26, (65 + n % 26).toNat, 48 + i / 26 % 10]

/-- The type that a small one stands for: so deep at most, of what is known. -/
def Nd.kd (t : Nd) (deep : Nat) (known : List ByteArray) : Int :=
  if (t.kind % 10 = 9 ∧ known.length = 0) ∨ (deep ≤ 1 ∧ (t.kind % 10 = 5 ∨ t.kind % 10 = 6 ∨ t.kind % 10 = 8)) then 1 else t.kind % 10
def Nd.subW (f : Nd → KT) (x : Nd) (i : Nat) : KT := match x.of[i % x.of.length]? with | none => .mk (i % 4 : Nat) 0 [] [] | some y => f y
def Nd.many (t : Nd) : Nat := 1 + (t.n % 3).toNat
/-- The type of a kind, its parts as 'sub' gives them. -/
def Nd.typW (t : Nd) (k : Int) (known : List ByteArray) (sub : Nat → KT) : KT :=
  if k = 4 then .mk 4 (1 + t.n % 60) [] []
  else if k = 5 then .mk 5 (1 + t.n % 60) [] [sub 0]
  else if k = 6 ∨ k = 8 then .mk k 0 ((List.range t.many).map fun i => nameOf i t.n) ((List.range t.many).map sub)
  else if k = 7 then .mk 7 0 ((List.range t.many).map fun i => nameOf i t.n) []
  else if k = 9 then .mk 9 0 [known.getD (t.n.toNat % known.length) (bs [])] []
  else .mk k 0 [] []
def Nd.typ : Nat → Nd → List ByteArray → KT
  | 0, t, known => t.typW (t.kd 0 known) known fun _ => .mk 0 0 [] []
  | d + 1, t, known => t.typW (t.kd (d + 1) known) known (Nd.subW (fun y => Nd.typ d y known) t)
theorem Nd.kd_ge {t : Nd} {deep : Nat} {known : List ByteArray} : 0 ≤ t.kd deep known ∧ t.kd deep known ≤ 9 := by
  unfold Nd.kd
  split <;> omega
end Go.Pv
