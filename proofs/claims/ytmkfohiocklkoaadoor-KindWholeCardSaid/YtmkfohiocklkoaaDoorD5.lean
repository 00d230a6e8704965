/- What a table's check answers, as data. No condition. -/
import Derived.Test.YtmkfohiocklkoaaDoorD4
namespace Go.Pv

theorem drop_at {α : Type} {l : List α} {k : Nat} {y : α} (h : l[k]? = some y) : l.drop k = y :: l.drop (k + 1) := by
  obtain ⟨hk, rfl⟩ := List.getElem?_eq_some_iff.1 h
  exact List.drop_eq_getElem_cons hk
theorem map_take_snoc {α β : Type} {l : List α} {k : Nat} {y : α} (f : α → β) (h : l[k]? = some y) : (l.take (k + 1)).map f = (l.take k).map f ++ [f y] := by
  rw [take_snoc h, List.map_append]; rfl

def faultsE : List Fl → List ByteArray → List Int → Int
  | [], _, _ => 0
  | f :: fs, all, nums => if freshE f.name all ≠ 0 then freshE f.name all else if inNum f.number = false then 2 else if f.number ∈ nums then 9 else faultsE fs (all ++ [f.name]) (nums ++ [f.number])
def partsE (types : List Al) (known : List ByteArray) : List KT → Int
  | [] => 0
  | x :: xs => if x.check 5 known ≠ 0 then x.check 5 known else if (wholeM 20 types x 200).1.2 ≠ 0 then (wholeM 20 types x 200).1.2 else partsE types known xs
def numsE (p : Pc) : Bool := !inNum p.number || decide (p.timeout < 1) || decide (p.timeout > 1000) || decide (p.collate ≥ 3)
def procsE (types : List Al) (known : List ByteArray) : List Pc → List ByteArray → List Int → Int
  | [], _, _ => 0
  | p :: ps, all, nums => if freshE p.name all ≠ 0 then freshE p.name all else if numsE p = true then 2 else if p.number ∈ nums then 9 else if partsE types known [p.takes, p.answers] ≠ 0 then partsE types known [p.takes, p.answers] else procsE types known ps (all ++ [p.name]) (nums ++ [p.number])
def TB.names (t : TB) : List ByteArray := t.types.map Al.name
def TB.check (t : TB) : Int :=
  if isName t.name = false then 8 else if (inNum t.number && inNum t.version) = false then 2 else if t.types.length > 16 ∨ t.faults.length > 16 ∨ t.procs.length > 16 then 7
  else if typesE t.types [] ≠ 0 then typesE t.types [] else if faultsE t.faults t.names [] ≠ 0 then faultsE t.faults t.names [] else procsE t.types t.names t.procs (t.names ++ t.faults.map Fl.name) []

structure TB.fit (t : TB) : Prop where
  name : t.name.size < 2 ^ 60
  types : fitA t.types
  tnames : ∀ a ∈ t.types, a.name.size < 2 ^ 60
  faults : t.faults.length < 2 ^ 40
  fnames : ∀ f ∈ t.faults, f.name.size < 2 ^ 60
  procs : t.procs.length < 2 ^ 40
  pnames : ∀ p ∈ t.procs, p.name.size < 2 ^ 60
  pfit : ∀ p ∈ t.procs, p.takes.fit ∧ p.answers.fit
abbrev isD (l : List Int) : Dat := .sl (l.map fun n => [.int .i64 n])
end Go.Pv
