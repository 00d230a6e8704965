/- Whole tables as data, and the ones that small numbers stand for. No condition. -/
import Derived.Test.YtmkfohiocklkoaaDoorD3
namespace Go.Pv

theorem Al.row_eq (a : Al) : a.row = [.str a.name, .int .u8 a.ty.kind, .int .i64 a.ty.most, .sl (a.ty.names.map fun s => [.str s]), .sl (a.ty.of.map KT.row)] := by rw [Al.row, KT.row_eq]; rfl
theorem Al.row_av (a : Al) : a.row.map AV.d = [.d (.str a.name), .d (.int .u8 a.ty.kind), .d (.int .i64 a.ty.most), .d (.sl (a.ty.names.map fun s => [.str s])), .d (.sl (a.ty.of.map KT.row))] := by rw [Al.row_eq]; rfl
structure Fl where
  name : ByteArray
  number : Int
abbrev Fl.row (f : Fl) : List Dat := [.str f.name, .int .i64 f.number]
theorem Fl.row_av (f : Fl) : f.row.map AV.d = [.d (.str f.name), .d (.int .i64 f.number)] := rfl
structure Pc where
  name : ByteArray
  number : Int
  takes : KT
  answers : KT
  collate : Int
  timeout : Int
abbrev Pc.row (p : Pc) : List Dat := [.str p.name, .int .i64 p.number, .int .u8 p.takes.kind, .int .i64 p.takes.most, .sl (p.takes.names.map fun s => [.str s]), .sl (p.takes.of.map KT.row), .int .u8 p.answers.kind, .int .i64 p.answers.most, .sl (p.answers.names.map fun s => [.str s]), .sl (p.answers.of.map KT.row), .int .u8 p.collate, .int .i64 p.timeout]
theorem Pc.row_av (p : Pc) : p.row.map AV.d = [.d (.str p.name), .d (.int .i64 p.number), .d (.int .u8 p.takes.kind), .d (.int .i64 p.takes.most), .d (.sl (p.takes.names.map fun s => [.str s])), .d (.sl (p.takes.of.map KT.row)), .d (.int .u8 p.answers.kind), .d (.int .i64 p.answers.most), .d (.sl (p.answers.names.map fun s => [.str s])), .d (.sl (p.answers.of.map KT.row)), .d (.int .u8 p.collate), .d (.int .i64 p.timeout)] := rfl
structure TB where
  name : ByteArray
  number : Int
  version : Int
  types : List Al
  faults : List Fl
  procs : List Pc
abbrev TB.av (t : TB) : AV := .agg [.d (.str t.name), .d (.int .i64 t.number), .d (.int .i64 t.version), .d (.sl (t.types.map Al.row)), .d (.sl (t.faults.map Fl.row)), .d (.sl (t.procs.map Pc.row))]

def face : ByteArray := bs [102, 97, 99, 101]
def Nd.zero : Nd := .mk 0 0 []
theorem name_fits (c : Nat) (i : Nat) (n : Int) : (bs [c]).size + (nameOf i n).size ≤ 9223372036854775807 := by show (1 + 3 : Nat) ≤ _; decide
def tname (i : Nat) : ByteArray := bs [84] ++ nameOf i 3
def ename (i : Nat) : ByteArray := bs [69] ++ nameOf i 5
def pname (i : Nat) : ByteArray := bs [80] ++ nameOf i 7
def known (i : Nat) : List ByteArray := (List.range i).map tname
def Sm.al (s : Sm) (i : Nat) : Al := ⟨tname i, Nd.typ 3 (s.aliases.getD i Nd.zero) (known i)⟩
def flOf (i : Nat) : Fl := ⟨ename i, 10 * i⟩
def Sm.as (s : Sm) : Nat := min s.aliases.length 4
def Sm.pc (s : Sm) (i : Nat) : Pc :=
  let p := s.procs.getD i ⟨Nd.zero, Nd.zero, 0, 0⟩
  ⟨pname i, i + s.number % 9, Nd.typ 3 p.takes (known s.as), Nd.typ 3 p.answers (known s.as), p.collate % 3, 1 + p.timeout % 1000⟩
def Sm.fs (s : Sm) : Nat := (s.faults % 4).toNat
def Sm.ps (s : Sm) : Nat := min s.procs.length 4
def Sm.tb (s : Sm) : TB := ⟨face, s.number, s.number % 7, (List.range s.as).map s.al, (List.range s.fs).map flOf, (List.range s.ps).map s.pc⟩
theorem getD_of {α : Type} {l : List α} {k : Nat} {y d : α} (h : l[k]? = some y) : l.getD k d = y := by rw [List.getD_eq_getElem?_getD, h]; rfl
theorem range_snoc {α : Type} (f : Nat → α) (k : Nat) : (List.range (k + 1)).map f = (List.range k).map f ++ [f k] := by rw [List.range_succ, List.map_append]; rfl
end Go.Pv
