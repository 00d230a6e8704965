/- Which tables are alike; how many types are in one: as data. No condition. -/
import Derived.Test.YtmkfohiocklkoaaDoorD5
namespace Go.Pv

abbrev Al.av (a : Al) : AV := .agg [.d (.str a.name), .d (.int .u8 a.ty.kind), .d (.int .i64 a.ty.most), .d (.sl (a.ty.names.map fun s => [.str s])), .d (.sl (a.ty.of.map KT.row))]
abbrev Pc.av (p : Pc) : AV := .agg [.d (.str p.name), .d (.int .i64 p.number), .d (.int .u8 p.takes.kind), .d (.int .i64 p.takes.most), .d (.sl (p.takes.names.map fun s => [.str s])), .d (.sl (p.takes.of.map KT.row)), .d (.int .u8 p.answers.kind), .d (.int .i64 p.answers.most), .d (.sl (p.answers.names.map fun s => [.str s])), .d (.sl (p.answers.of.map KT.row)), .d (.int .u8 p.collate), .d (.int .i64 p.timeout)]
def Al.same (a b : Al) : Bool := seqB a.name b.name && a.ty.same b.ty
def Fl.same (a b : Fl) : Bool := seqB a.name b.name && a.number == b.number
def Pc.same (a b : Pc) : Bool := seqB a.name b.name && a.number == b.number && a.takes.same b.takes && a.answers.same b.answers && a.collate == b.collate && a.timeout == b.timeout
def TB.alike (t u : TB) : Bool := seqB t.name u.name && t.number == u.number && t.version == u.version && eqAll Al.same t.types u.types && eqAll Fl.same t.faults u.faults && eqAll Pc.same t.procs u.procs

theorem eqAll_drop {α : Type} {e : α → α → Bool} {l k : List α} {i : Nat} {x y : α} (hx : l[i]? = some x) (hy : k[i]? = some y) : eqAll e (l.drop i) (k.drop i) = (e x y && eqAll e (l.drop (i + 1)) (k.drop (i + 1))) := by
  rw [drop_at hx, drop_at hy]; rfl
theorem eqAll_ne {α : Type} {e : α → α → Bool} {l k : List α} (h : l.length ≠ k.length) : eqAll e l k = false := by
  cases hh : eqAll e l k with
  | false => rfl
  | true => exact absurd (eqAll_len hh) h

/-- How many types are in one, itself, too; what is told of a reference: what it stands for. -/
def cnt : Nat → List Al → KT → Nat
  | 0, _, _ => 1
  | d + 1, types, x => if x.kind = 9 then match types[refAt types x.names]? with | some a => cnt d (types.take (refAt types x.names)) a.ty | none => 1 + ((x.of.map (cnt d types)).sum) else 1 + (x.of.map (cnt d types)).sum
/-- No deeper than 'd', and references have a name. -/
def dok : Nat → List Al → KT → Prop
  | 0, _, _ => False
  | d + 1, types, x => (x.kind = 9 → x.names.length = 1 ∧ ∀ i (h : i < types.length), dok d (types.take i) types[i].ty) ∧ ∀ o ∈ x.of, dok d types o
def Find (l : List Pc) (n : Int) : Option Pc := l.find? fun p => p.number == n
def Pc.zero : Pc := ⟨bs [], 0, .mk 0 0 [] [], .mk 0 0 [] [], 0, 0⟩
end Go.Pv
