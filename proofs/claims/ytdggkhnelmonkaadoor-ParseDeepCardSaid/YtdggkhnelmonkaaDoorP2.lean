/- The operations by value: what each does to slots and state, and which operation of the loaded program each stands for. No condition. -/
import Derived.Test.YtdggkhnelmonkaaDoorP1
namespace Go.Pv

abbrev Slots := Nat → AV
def put (s : Slots) (d : Option Nat) (v : AV) : Slots :=
  match d with
  | none => s
  | some t => fun u => if u = t then v else s u

inductive Arg where
  | t (n : Nat)
  | c (v : AV)
  | g (n : Nat)

def Arg.ev (G : Glob) (s : Slots) : Arg → AV
  | .t n => s n
  | .c v => v
  | .g n => match G n with | some cells => .elt cells | none => .undef

def AV.dat? : AV → Option Dat
  | .d x => some x
  | .full rows => some (.sl rows)
  | .own _ rows _ => some (.sl rows)
  | _ => none
def AV.cells : AV → List AV
  | .agg cs => cs
  | .undef => []
  | .tup _ => []
  | v => [v]
/-- One cell. -/
def AV.sc : AV → Bool
  | .agg _ => false
  | .undef => false
  | .tup _ => false
  | _ => true
def AV.datCells (v : AV) : Option (List Dat) := v.cells.mapM AV.dat?
/-- Without the right to append in place. -/
def AV.weak1 : AV → AV
  | .full rows => .d (.sl rows)
  | .own _ rows _ => .d (.sl rows)
  | v => v
def AV.weakA : AV → AV
  | .full rows => .d (.sl rows)
  | .own _ rows _ => .d (.sl rows)
  | .agg cells => .agg (cells.map AV.weak1)
  | v => v
def AV.weak : AV → AV
  | .tup vs => .tup (vs.map AV.weakA)
  | .full rows => .d (.sl rows)
  | .own _ rows _ => .d (.sl rows)
  | .agg cells => .agg (cells.map AV.weak1)
  | v => v
def AV.rows? : AV → Option (List (List Dat))
  | .full rows => some rows
  | .own _ rows _ => some rows
  | .d (.sl rows) => some rows
  | _ => none
def b2 (b : Bool) : AV := .d (.bool b)
def i64 (n : Int) : AV := .d (.int .i64 n)

inductive POp where
  | mov (x : Arg)
  | pick (c a b : Arg)
  | bin (op : BinOp) (x y : Arg)
  | isNil (kd : Nat) (neg : Bool) (x : Arg)
  | isNilS (neg : Bool) (x : Arg)
  | eqB (neg : Bool) (x y : Arg)
  | eqAgg (neg : Bool) (ks : List Nat) (x y : Arg)
  | not (x : Arg)
  | neg (x : Arg)
  | cpl (x : Arg)
  | cvt (k : IntKind) (x : Arg)
  | cvtF (k : FloatKind) (x : Arg)
  | cvtI (k : IntKind) (x : Arg)
  | nat (n : Nat) (x : Arg)
  | same (x : Arg)
  | strOf (x : Arg)
  | bytesOf (x : Arg)
  | nilchk (x : Arg)
  | faddr (off : Nat) (x : Arg)
  | field (ag : Bool) (off sz : Nat) (x : Arg)
  | iaddr (sz : Nat) (x i : Arg)
  | iaddrA (len sz : Nat) (x i : Arg)
  | idxS (x i : Arg)
  | idxA (ag : Bool) (len sz : Nat) (x i : Arg)
  | ext (x : Arg) (n : Nat)
  | len (x : Arg)
  | lenS (x : Arg)
  | minmax (max : Bool) (x : Arg) (rest : List Arg)
  | slc (sz : Nat) (x : Arg) (lo hi : Option Arg)
  | slcA (len sz : Nat) (x : Arg) (lo hi : Option Arg)
  | slcS (x : Arg) (lo hi : Option Arg)
  | bld (zero : List AV) (parts : List (Nat × Nat × Arg))
  | bsl (sz : Nat) (parts : List Arg)
  | mkfn (f : FuncId) (first captured : List Arg)
  | mki (t : TypeId) (x : Arg)
  | load (ag : Bool) (sz : Nat) (x : Arg) (stable : Bool)
  | box (sz : Nat) (x : Arg)
  | alloc (zero : List AV)
  | make (sz : Nat) (bytes : Nat) (zero : List AV) (len cap : Arg)
  | store (sz : Nat) (a v : Arg)
  | storeo (sz : Nat) (a v : Arg)
  | app (sz bytes : Nat) (x y : Arg)
  | appB (sz bytes : Nat) (x y : Arg)
  | appS (x y : Arg)
  | call (f : FuncId) (args : List Arg)
  | callp (f : FuncId) (args : List Arg)
  | callv (x : Arg) (args : List Arg)
  | call0 (f : FuncId) (args : List Arg)
  | callv0 (x : Arg) (args : List Arg)
  | callvp (x : Arg) (args : List Arg)
  | copy (sz : Nat) (x y : Arg)
  | clr (zc : List AV) (x : Arg)
  | tassert (t : TypeId) (zero : AV) (x : Arg)
  | callE (f : FuncId) (args : List Arg)

def intBin (op : BinOp) (k : IntKind) (a b : Int) : Option AV :=
  match op with
  | .add => some (.d (.int k (k.wrap (a + b))))
  | .sub => some (.d (.int k (k.wrap (a - b))))
  | .mul => some (.d (.int k (k.wrap (a * b))))
  | .quo => if b = 0 then none else some (.d (.int k (k.wrap (a.tdiv b))))
  | .rem => if b = 0 then none else some (.d (.int k (a.tmod b)))
  | .and => some (.d (.int k (k.wrap (BitVec.ofInt k.bits a &&& BitVec.ofInt k.bits b).toNat)))
  | .or => some (.d (.int k (k.wrap (BitVec.ofInt k.bits a ||| BitVec.ofInt k.bits b).toNat)))
  | .xor => some (.d (.int k (k.wrap (BitVec.ofInt k.bits a ^^^ BitVec.ofInt k.bits b).toNat)))
  | .andNot => some (.d (.int k (k.wrap (BitVec.ofInt k.bits a &&& ~~~(BitVec.ofInt k.bits b)).toNat)))
  | .eql => some (b2 (a == b))
  | .neq => some (b2 (a != b))
  | .lss => some (b2 (decide (a < b)))
  | .leq => some (b2 (decide (a ≤ b)))
  | .gtr => some (b2 (decide (a > b)))
  | .geq => some (b2 (decide (a ≥ b)))
  | _ => none
def shBin (op : BinOp) (k : IntKind) (a y : Int) : Option AV :=
  if y < 0 then none else
  match op with
  | .shl => some (.d (.int k (k.wrap (a * 2 ^ (min y.toNat k.bits)))))
  | .shr => some (.d (.int k (a.fdiv (2 ^ (min y.toNat k.bits)))))
  | _ => none
def strBin (op : BinOp) (x y : ByteArray) : Option AV :=
  let eq := x.toList == y.toList
  let lt := Op.bytesLess x.toList y.toList
  match op with
  | .add => if x.size + y.size ≤ 9223372036854775807 then some (.d (.str (x ++ y))) else none
  | .eql => some (b2 eq)
  | .neq => some (b2 (!eq))
  | .lss => some (b2 lt)
  | .leq => some (b2 (lt || eq))
  | .gtr => some (b2 (!(lt || eq)))
  | .geq => some (b2 (!lt))
  | _ => none
def fltBin (op : BinOp) (k : FloatKind) (x y : Nat) : Option AV :=
  match op with
  | .add => (k.format.add x y).map fun r => .d (.flt k r)
  | .sub => (k.format.sub x y).map fun r => .d (.flt k r)
  | .mul => (k.format.mul x y).map fun r => .d (.flt k r)
  | .quo => (k.format.div x y).map fun r => .d (.flt k r)
  | .eql => some (b2 (k.format.order x y == some .eq))
  | .neq => some (b2 (k.format.order x y != some .eq))
  | .lss => some (b2 (k.format.order x y == some .lt))
  | .leq => some (b2 (k.format.order x y == some .lt || k.format.order x y == some .eq))
  | .gtr => some (b2 (k.format.order x y == some .gt))
  | .geq => some (b2 (k.format.order x y == some .gt || k.format.order x y == some .eq))
  | _ => none
def binEv (op : BinOp) (x y : AV) : Option AV :=
  match x, y with
  | .d (.int k a), .d (.int k' b) => if op = .shl ∨ op = .shr then shBin op k a b else if k = k' then intBin op k a b else none
  | .d (.str a), .d (.str b) => strBin op a b
  | .d (.flt k a), .d (.flt k' b) => if k = k' then fltBin op k a b else none
  | _, _ => none
/-- Is it nil? 0: a pointer, 1: a slice, 2: a function, 3: an interface value. (Of an empty slice that came in nobody knows.) -/
def nilEv : Nat → AV → Option Bool
  | 0, .d .nilp => some true
  | 0, .d (.ptr _ _) => some false
  | 0, .elt _ => some false
  | 1, .full (_ :: _) => some false
  | 1, .d (.sl (_ :: _)) => some false
  | 1, .own _ _ _ => some false
  | 1, .bsl _ _ _ _ => some false
  | 2, .d .nilf => some true
  | 2, .d (.fn _ _ _) => some false
  | 3, .d .nili => some true
  | 3, .d (.ifc _ _) => some false
  | 3, .d (.ifa _ _) => some false
  | _, _ => none
/-- Equal, cell by cell: 0 a bool, 1 a number, 2 a text. -/
def eqCells : List Nat → List AV → List AV → Option Bool
  | [], [], [] => some true
  | q :: qs, x :: xs, y :: ys =>
    match q, x, y with
    | 1, .d (.int k a), .d (.int k' b) => if k = k' then (eqCells qs xs ys).map fun r => a == b && r else none
    | 0, .d (.bool a), .d (.bool b) => (eqCells qs xs ys).map fun r => a == b && r
    | 2, .d (.str a), .d (.str b) => (eqCells qs xs ys).map fun r => a.toList == b.toList && r
    | _, _, _ => none
  | _, _, _ => none

def ldv (ag : Bool) (sz : Nat) (cs : List AV) : Option AV :=
  if cs.length < sz then none else if ag then some (.agg (cs.take sz)) else if sz = 1 then cs.head? else none

def fillCells : List AV → List (Nat × Nat × AV) → Option (List AV)
  | cells, [] => some cells
  | cells, (off, sz, v) :: rest =>
    if v.cells.length = sz ∧ off + sz ≤ cells.length then fillCells (cells.take off ++ v.cells ++ cells.drop (off + sz)) rest else none

def bnd (x : AV) (y : Nat) : Option Nat :=
  match x with
  | .d (.int _ n) => if 0 ≤ n ∧ n ≤ (y : Int) then some n.toNat else none
  | _ => none
/-- The bounds of a slice expression: low, high. -/
def bnds (len cap : Nat) (lo hi : Option AV) : Option (Nat × Nat) :=
  (match hi with | some v => bnd v cap | none => some len).bind fun h =>
    (match lo with | some v => bnd v h | none => some 0).bind fun l => some (l, h)

def strOfRows : List (List Dat) → Option (List UInt8)
  | [] => some []
  | [.int .u8 n] :: rest => (strOfRows rest).map fun l => UInt8.ofNat n.toNat :: l
  | _ :: _ => none
def rowsOfStr (s : ByteArray) : List (List Dat) := s.data.toList.map fun b => [.int .u8 b.toNat]

def mm2 (mx : Bool) : AV → AV → Option AV
  | .d (.int k x), .d (.int _ y) => some (.d (.int k (if mx then (if y > x then y else x) else (if y < x then y else x))))
  | _, _ => none

/-- The operations that look at slots alone. -/
def ev (G : Glob) (s : Slots) : POp → Option AV
  | .mov x => some (x.ev G s)
  | .pick c a b => match c.ev G s with | .d (.bool t) => some (if t = true then a.ev G s else b.ev G s) | _ => none
  | .bin op x y => binEv op (x.ev G s) (y.ev G s)
  | .isNil kd neg x => (nilEv kd (x.ev G s)).map fun b => b2 (if neg then !b else b)
  | .eqB neg x y => match x.ev G s, y.ev G s with
    | .d (.bool a), .d (.bool b) => some (b2 (if neg then !(a == b) else a == b))
    | _, _ => none
  | .eqAgg neg fs x y => match x.ev G s, y.ev G s with
    | .agg xs, .agg ys => (eqCells fs xs ys).map fun b => b2 (if neg then !b else b)
    | _, _ => none
  | .not x => match x.ev G s with | .d (.bool b) => some (b2 (!b)) | _ => none
  | .neg x => match x.ev G s with
    | .d (.int k n) => some (.d (.int k (k.wrap (0 - n))))
    | .d (.flt k b) => some (.d (.flt k (Op.negFloat k b)))
    | _ => none
  | .cpl x => match x.ev G s with | .d (.int k n) => some (.d (.int k (k.wrap (BitVec.ofInt k.bits (if k.signed then -1 else k.max) ^^^ BitVec.ofInt k.bits n).toNat))) | _ => none
  | .cvt k x => match x.ev G s with | .d (.int _ n) => some (.d (.int k (k.wrap n))) | _ => none
  | .cvtF k x => match x.ev G s with | .d (.int _ n) => some (.d (.flt k (k.nearest n))) | _ => none
  | .cvtI k x => match x.ev G s with
    | .d (.flt .f64 b) => match (FloatKind.f64.decode b).toInt .zero with | some n => if k.min ≤ n ∧ n ≤ k.max then some (.d (.int k n)) else none | none => none
    | _ => none
  | .nat 0 x => match x.ev G s with | .d (.flt .f64 b) => some (.d (.int .u64 b)) | _ => none
  | .nat 1 x => match x.ev G s with | .d (.int .u64 n) => some (.d (.flt .f64 n.toNat)) | _ => none
  | .same x => match x.ev G s with | .d (.str t) => some (.d (.str t)) | _ => none
  | .strOf x => ((x.ev G s).rows?.bind strOfRows).map fun l => .d (.str ⟨l.toArray⟩)
  | .nilchk x => match x.ev G s with
    | .d (.ptr b o) => some (.d (.ptr b o))
    | .elt cells => some (.elt cells)
    | .d (.fn f a c) => some (.d (.fn f a c))
    | _ => none
  | .faddr off x => match x.ev G s with
    | .d (.ptr b o) => some (.d (.ptr b (o + off)))
    | .elt cells => some (.elt (cells.drop off))
    | _ => none
  | .field ag off sz x => match x.ev G s with | .agg cells => ldv ag sz (cells.drop off) | _ => none
  | .iaddr sz x i => match i.ev G s with
    | .d (.int _ n) =>
      match x.ev G s with
      | .bsl b off len _ => if 0 ≤ n ∧ n < (len : Int) then some (.d (.ptr b (off + n.toNat * sz))) else none
      | v => v.rows?.bind fun rows => if 0 ≤ n ∧ n < (rows.length : Int) ∧ (rows.getD n.toNat []).length = sz then some (.elt (rows.getD n.toNat [])) else none
    | _ => none
  | .iaddrA len sz x i => match i.ev G s with
    | .d (.int _ n) => if 0 ≤ n ∧ n < (len : Int) then
        match x.ev G s with
        | .d (.ptr b o) => some (.d (.ptr b (o + n.toNat * sz)))
        | .elt cells => some (.elt (cells.drop (n.toNat * sz)))
        | _ => none
      else none
    | _ => none
  | .idxS x i => match x.ev G s, i.ev G s with
    | .d (.str t), .d (.int _ n) => if 0 ≤ n then (t[n.toNat]?).map fun b => .d (.int .u8 b.toNat) else none
    | _, _ => none
  | .idxA ag len sz x i => match x.ev G s, i.ev G s with
    | .agg cells, .d (.int _ n) => if 0 ≤ n ∧ n < (len : Int) then ldv ag sz (cells.drop (n.toNat * sz)) else none
    | _, _ => none
  | .ext x n => match x.ev G s with | .tup vs => vs[n]? | _ => none
  | .len x => match x.ev G s with
    | .bsl _ _ len _ => some (i64 len)
    | v => v.rows?.map fun rows => i64 rows.length
  | .lenS x => match x.ev G s with | .d (.str t) => some (i64 t.size) | _ => none
  | .minmax mx x rest => (rest.map fun (p : Arg) => p.ev G s).foldlM (mm2 mx) (x.ev G s)
  | .slc sz x lo hi => match x.ev G s with
    | .bsl b off len cap => (bnds len cap (lo.map fun (p : Arg) => p.ev G s) (hi.map fun (p : Arg) => p.ev G s)).map fun p => .bsl b (if cap = p.1 then off else off + p.1 * sz) (p.2 - p.1) (cap - p.1)
    | v => v.rows?.bind fun rows => (bnds rows.length rows.length (lo.map fun (p : Arg) => p.ev G s) (hi.map fun (p : Arg) => p.ev G s)).bind fun p =>
        if p.1 = 0 ∧ p.2 = rows.length then some v else if p.1 = 0 ∨ (rows.all fun r => r.length == sz) = true then some (.d (.sl ((rows.take p.2).drop p.1))) else none
  | .slcA len sz x lo hi => match x.ev G s with
    | .d (.ptr b o) => (bnds len len (lo.map fun (p : Arg) => p.ev G s) (hi.map fun (p : Arg) => p.ev G s)).map fun p => .bsl b (if len = p.1 then o else o + p.1 * sz) (p.2 - p.1) (len - p.1)
    | .elt cells => if sz = 1 ∧ len ≤ cells.length then (bnds len len (lo.map fun (p : Arg) => p.ev G s) (hi.map fun (p : Arg) => p.ev G s)).map fun p => .d (.sl (((cells.take p.2).drop p.1).map fun c => [c])) else none
    | _ => none
  | .slcS x lo hi => match x.ev G s with
    | .d (.str t) => (bnds t.size t.size (lo.map fun (p : Arg) => p.ev G s) (hi.map fun (p : Arg) => p.ev G s)).map fun p => .d (.str (t.extract p.1 p.2))
    | _ => none
  | .bld zero parts => (fillCells zero (parts.map fun p => (p.1, p.2.1, p.2.2.ev G s))).map .agg
  | .bsl sz parts => ((parts.map fun (p : Arg) => p.ev G s).mapM AV.datCells).bind fun rows => if rows.all (·.length == sz) then some (.full rows) else none
  | .mkfn f first captured => ((first.map fun (p : Arg) => p.ev G s).mapM AV.dat?).bind fun fs => ((captured.map fun (p : Arg) => p.ev G s).mapM AV.dat?).map fun cs => .d (.fn f fs cs)
  | .mki t x => match x.ev G s with
    | .agg cells => ((AV.agg cells).datCells).map fun cs => .d (.ifa t cs)
    | v => v.dat?.map fun y => .d (.ifc t y)
  | .bytesOf x => match x.ev G s with | .d (.str t) => some (.d (.sl (rowsOfStr t))) | _ => none
  | .tassert t zero x => match x.ev G s with
    | .d (.ifa u cells) => some (if u = t then .tup [.agg (cells.map .d), b2 true] else .tup [zero, b2 false])
    | .d (.ifc u y) => some (if u = t then .tup [.d y, b2 true] else .tup [zero, b2 false])
    | .d .nili => some (.tup [zero, b2 false])
    | _ => none
  | _ => none

/-- State, what was read for good in this region, the states ahead of writes in this region. -/
structure Mx where
  st : St
  watch : Nat → List AV → Prop
  hist : St → Prop

def Mx.holds (m : Mx) (st' : St) : Prop := ∀ b cells, m.watch b cells → st'.box b = some cells
def Mx.see (m : Mx) (b : Nat) (cells : List AV) : Mx := { m with watch := fun c l => m.watch c l ∨ (c = b ∧ l = cells) }
def Mx.past (m : Mx) (st' : St) : Mx := ⟨st', m.watch, fun h => m.hist h ∨ h = m.st⟩
def Mx.setSt (m : Mx) (st' : St) : Mx := ⟨st', m.watch, m.hist⟩

abbrev CallsP := FuncId → List AV → St → (AV → St → Prop) → Prop

/-- A step that stands behind all that looks. -/
structure Stp where
  go : Mx → (AV → Mx → Prop) → Prop
  mono : ∀ (m : Mx) (Q Q' : AV → Mx → Prop), (∀ v m, Q v m → Q' v m) → go m Q → go m Q'
  const : ∀ (m : Mx) (c : Prop), go m (fun _ _ => c) → c

/-- An operation, its operands read: what it does to the state. -/
inductive NF where
  | n (e : Option AV)
  | r (b o : Nat) (ag : Bool) (sz : Nat)
  | s (b o : Nat) (ag : Bool) (sz : Nat)
  | f (c : Bool) (cells : List AV) (v : Nat → AV)
  | w (b o sz : Nat) (cs : List AV)
  | a (sz bytes : Nat) (x : AV) (news : List (List Dat))
  | wo (b o sz : Nat) (cs : List AV)
  | ab (sz bytes : Nat) (x : AV) (news : List (List Dat))
  | ci (f : FuncId) (as : List AV)
  | cp (f : FuncId) (as : List AV)
  | c0 (f : FuncId) (as : List AV)
  | any
  | bad
  | x (s : Stp)
  | ce (f : FuncId) (as : List AV)

/-- A call that may not return: nothing changes places with it. -/
def NF.isZ : NF → Bool
  | .ce .. => true
  | _ => false

/-- The cells of what is copied. -/
def srcCells (st : St) (k : Nat) : AV → Option (List AV)
  | .bsl b o _ _ => (st.box b).map fun l => (l.drop o).take k
  | v => v.rows?.map fun rows => (rows.flatten.map .d).take k
def AV.slen : AV → Option Nat
  | .bsl _ _ n _ => some n
  | v => v.rows?.map (·.length)
def Mx.new (st : St) : Mx := ⟨st, fun _ _ => False, fun _ => False⟩
/-- copy: what stands there is read ahead of all that is written. -/
def copyStp (sz b o n : Nat) (y : AV) : Stp where
  go m Q := ∃ cells n' cs, m.st.box b = some cells ∧ y.slen = some n' ∧ srcCells m.st (min n' n * sz) y = some cs ∧ (cs.length = min n' n * sz ∧ cs.all AV.sc = true) ∧ o + min n' n * sz ≤ cells.length ∧
    (∀ r, y.rows? = some r → ∀ l ∈ r, l.length = sz) ∧ Q (i64 (min n' n : Nat)) (Mx.new (m.st.setBox b (cells.take o ++ cs ++ cells.drop (o + min n' n * sz))))
  mono := fun _ _ _ h ⟨cells, n', cs, h1, h2, h3, h4, h5, h6, h7⟩ => ⟨cells, n', cs, h1, h2, h3, h4, h5, h6, h _ _ h7⟩
  const := fun _ _ ⟨_, _, _, _, _, _, _, _, _, h7⟩ => h7

/-- clear: so many elements are nought. -/
def clrStp (zc : List AV) (b o n : Nat) : Stp where
  go m Q := ∃ cells, m.st.box b = some cells ∧ n ≠ 0 ∧ o + n * zc.length ≤ cells.length ∧ Q (.tup []) (Mx.new (m.st.setBox b (cells.take o ++ (List.replicate n zc).flatten ++ cells.drop (o + n * zc.length))))
  mono := fun _ _ _ h ⟨cells, h1, h2, h3, h4⟩ => ⟨cells, h1, h2, h3, h _ _ h4⟩
  const := fun _ _ ⟨_, _, _, _, h4⟩ => h4

/-- append to nothing: what is appended is a variable's row. -/
def appStp (sz bytes : Nat) (x : AV) (b off n : Nat) : Stp where
  go m Q := ∃ (cells : List AV) (news : List (List Dat)), m.st.box b = some cells ∧ (cells.drop off).take (n * sz) = news.flatten.map .d ∧ news.length = n ∧ (∀ r ∈ news, r.length = sz) ∧ x = .full [] ∧ n * bytes ≤ 140737488355328 ∧ n ≠ 0 ∧
    ∀ b' cap, m.st.fresh b' → n ≤ cap → Q (.bsl b' 0 n cap) (m.setSt (m.st.setBox b' (news.flatten.map .d ++ List.replicate ((cap - n) * sz) .undef)))
  mono := fun _ _ _ h ⟨cells, news, h1, h2, h3, h4, h5, h6, h7, h8⟩ => ⟨cells, news, h1, h2, h3, h4, h5, h6, h7, fun b cap hb hc => h _ _ (h8 b cap hb hc)⟩
  const := fun m _ ⟨_, _, _, _, _, _, _, _, _, h8⟩ => m.st.has_fresh.elim fun b hb => h8 b _ hb (Nat.le_refl _)

def ptrAt (b : Nat) : AV := .d (.ptr b 0)

def nf (G : Glob) (s : Slots) : POp → NF
  | .load ag sz x stable => match x.ev G s with
    | .elt cells => .n (ldv ag sz (cells.map .d))
    | .d (.ptr b o) => if stable = true then .s b o ag sz else .r b o ag sz
    | _ => .bad
  | .box sz x => .f ((x.ev G s).cells.length == sz) (x.ev G s).cells ptrAt
  | .alloc zero => .f true zero ptrAt
  | .make _ bytes zero len cap => match len.ev G s, cap.ev G s with
    | .d (.int .i64 l), .d (.int .i64 c) => .f (decide (0 ≤ l ∧ l ≤ c ∧ c * bytes ≤ 281474976710656)) (List.replicate c.toNat zero).flatten (fun b => .bsl b 0 l.toNat c.toNat)
    | _, _ => .bad
  | .store sz a v => match a.ev G s with
    | .d (.ptr b o) => .w b o sz (v.ev G s).cells
    | _ => .bad
  | .storeo sz a v => match a.ev G s with
    | .d (.ptr b o) => .wo b o sz (v.ev G s).cells
    | _ => .bad
  | .app sz bytes x y => match (y.ev G s).rows? with
    | some news => .a sz bytes (x.ev G s) news
    | none => .bad
  | .appB sz bytes x y => match (y.ev G s).rows? with
    | some news => .ab sz bytes (x.ev G s) news
    | none => match y.ev G s with
      | .bsl b off n _ => .x (appStp sz bytes (x.ev G s) b off n)
      | _ => .bad
  | .appS x y => match y.ev G s with
    | .d (.str t) => .a 1 1 (x.ev G s) (rowsOfStr t)
    | _ => .bad
  | .call f args => .ci f ((args.map fun (p : Arg) => p.ev G s).map AV.weak)
  | .callp f args => .cp f ((args.map fun (p : Arg) => p.ev G s).map AV.weak)
  | .callv x args => match x.ev G s with
    | .d (.fn f first captured) => .ci f (first.map .d ++ ((args.map fun (p : Arg) => p.ev G s).map AV.weak) ++ captured.map .d)
    | _ => .bad
  | .callvp x args => match x.ev G s with
    | .d (.fn f first captured) => .cp f (first.map .d ++ ((args.map fun (p : Arg) => p.ev G s).map AV.weak) ++ captured.map .d)
    | _ => .bad
  | .callE f args => .ce f ((args.map fun (p : Arg) => p.ev G s).map AV.weak)
  | .call0 f args => .c0 f ((args.map fun (p : Arg) => p.ev G s).map AV.weak)
  | .callv0 x args => match x.ev G s with
    | .d (.fn f first captured) => .c0 f (first.map .d ++ ((args.map fun (p : Arg) => p.ev G s).map AV.weak) ++ captured.map .d)
    | _ => .bad
  | .isNilS neg x => match x.ev G s with
    | .d (.sl []) => .any
    | v => .n ((nilEv 1 v).map fun b => b2 (if neg then !b else b))
  | .copy sz x y => match x.ev G s with
    | .bsl b o n _ => .x (copyStp sz b o n (y.ev G s))
    | _ => .bad
  | .clr zc x => match x.ev G s with
    | .bsl b o n _ => .x (clrStp zc b o n)
    | _ => .bad
  | o => .n (ev G s o)

def NF.step (C : CallsP) (x : NF) (m : Mx) (Q : AV → Mx → Prop) : Prop :=
  match x with
  | .n e => ∃ v, e = some v ∧ Q v m
  | .r b o ag sz => ∃ cells, m.st.box b = some cells ∧ ∃ v, ldv ag sz (cells.drop o) = some v ∧ Q v m
  | .s b o ag sz => ∃ cells, m.st.box b = some cells ∧ ∃ v, ldv ag sz (cells.drop o) = some v ∧ (∀ h, m.hist h → h.box b = some cells) ∧ Q v (m.see b cells)
  | .f c cells v => c = true ∧ ∀ b, m.st.fresh b → Q (v b) (m.setSt (m.st.setBox b cells))
  | .w b o sz cs => ∃ cells, m.st.box b = some cells ∧ (cs.length = sz ∧ cs.all AV.sc = true) ∧ o + sz ≤ cells.length ∧
        m.holds (m.st.setBox b (cells.take o ++ cs ++ cells.drop (o + sz))) ∧ Q .undef (m.past (m.st.setBox b (cells.take o ++ cs ++ cells.drop (o + sz))))
  | .wo b o sz cs => ∃ cells, m.st.box b = some cells ∧ (cs.length = sz ∧ cs.all AV.sc = true) ∧ o + sz ≤ cells.length ∧ Q .undef ⟨m.st.setBox b (cells.take o ++ cs ++ cells.drop (o + sz)), fun _ _ => False, fun _ => False⟩
  | .ab sz bytes x news => (∀ r ∈ news, r.length = sz) ∧
      match x with
      | .full rows => (∀ r ∈ rows, r.length = sz) ∧ (rows.length + news.length) * bytes ≤ 140737488355328 ∧
          if news = [] then Q (.full rows) m else ∀ b cap, m.st.fresh b → rows.length + news.length ≤ cap →
            Q (.bsl b 0 (rows.length + news.length) cap) (m.setSt (m.st.setBox b ((rows ++ news).flatten.map .d ++ List.replicate ((cap - (rows.length + news.length)) * sz) .undef)))
      | .bsl b off k cap => off = 0 ∧ k ≤ cap ∧ ∃ cells, m.st.box b = some cells ∧ cells.length = cap * sz ∧ (k + news.length) * bytes ≤ 140737488355328 ∧
          if news = [] then Q (.bsl b off k cap) m else
          if k + news.length ≤ cap then Q (.bsl b off (k + news.length) cap) (Mx.new (m.st.setBox b (cells.take (k * sz) ++ news.flatten.map .d ++ cells.drop (k * sz + news.length * sz))))
          else ∀ b' cap', m.st.fresh b' → k + news.length ≤ cap' →
            Q (.bsl b' 0 (k + news.length) cap') (m.setSt (m.st.setBox b' (cells.take (k * sz) ++ news.flatten.map .d ++ List.replicate ((cap' - (k + news.length)) * sz) .undef)))
      | _ => False
  | .a sz bytes x news => (∀ r ∈ news, r.length = sz) ∧
      match x with
      | .full rows => (∀ r ∈ rows, r.length = sz) ∧ (rows.length + news.length) * bytes ≤ 140737488355328 ∧
          if news = [] then Q (.full rows) m else ∀ b cap, m.st.fresh b → Q (.own b (rows ++ news) cap) (m.setSt (m.st.setTok b ⟨rows.length + news.length, cap, sz⟩))
      | .own b rows cap => m.st.tok b = some ⟨rows.length, cap, sz⟩ ∧ (∀ r ∈ rows, r.length = sz) ∧ (rows.length + news.length) * bytes ≤ 140737488355328 ∧
          (Q (.own b (rows ++ news) cap) (m.setSt (m.st.setTok b ⟨rows.length + news.length, cap, sz⟩)) ∧
           ∀ b' cap', m.st.fresh b' → Q (.own b' (rows ++ news) cap') (m.setSt ((m.st.dropTok b).setTok b' ⟨rows.length + news.length, cap', sz⟩)))
      | _ => False
  | .ci g as => ∃ R : AV → St → Prop, C g as m.st R ∧ (∃ r st', R r st') ∧ ∀ r st', R r st' → m.holds st' ∧ Q r (m.past st')
  | .cp g as => ∃ R : AV → Prop, C g as m.st (fun r st' => st' = m.st ∧ R r) ∧ (∃ r, R r) ∧ ∀ r, R r → Q r m
  | .c0 g as => ∃ R : AV → St → Prop, C g as m.st R ∧ (∀ L : List Nat, (∀ b ∈ L, m.st.fresh b) → ∃ r st', R r st' ∧ ∀ b ∈ L, st'.fresh b) ∧ ∀ r st', R r st' → Q r (m.setSt st')
  | .any => ∀ b : Bool, Q (b2 b) m
  | .bad => False
  | .x stp => stp.go m Q
  | .ce g as => ∃ R : AV → St → Prop, C g as m.st R ∧ ∀ r st', R r st' → m.holds st' ∧ Q r (m.past st')

/-- One operation: what may come of it. -/
def ostep (G : Glob) (C : CallsP) (s : Slots) (o : POp) (m : Mx) (Q : AV → Mx → Prop) : Prop := (nf G s o).step C m Q

structure POper where
  dst : Option Nat
  op : POp
  guard : Option (Nat × Bool)

/-- Is the operation wanted? 'none': nobody knows. -/
def wants (s : Slots) (g : Option (Nat × Bool)) : Option Bool :=
  match g with
  | none => some true
  | some (t, b) => match s t with | .d (.bool c) => some (c == b) | .tup [] => some false | _ => none

structure X where
  sl : Slots
  m : Mx

def pstep (G : Glob) (C : CallsP) (o : POper) (K : X → Prop) (x : X) : Prop :=
  match wants x.sl o.guard with
  | some true => ostep G C x.sl o.op x.m fun v m => K ⟨put x.sl o.dst v, m⟩
  | some false => K ⟨put x.sl o.dst (.tup []), x.m⟩
  | none => False
def pops (G : Glob) (C : CallsP) : List POper → (X → Prop) → X → Prop
  | [], K, x => K x
  | o :: rest, K, x => pstep G C o (pops G C rest K) x

theorem NF.step_mono {C : CallsP} {x : NF} {m : Mx} {Q Q' : AV → Mx → Prop} (h : ∀ v m, Q v m → Q' v m) (hh : x.step C m Q) : x.step C m Q' := by
  cases x with
  | c0 g as => obtain ⟨R, k1, k2, k⟩ := hh; exact ⟨R, k1, k2, fun r st' hr => h _ _ (k r st' hr)⟩
  | any => exact fun b => h _ _ (hh b)
  | x s => exact s.mono m _ _ h hh
  | ce g as => obtain ⟨R, k1, k⟩ := hh; exact ⟨R, k1, fun r st' hr => ⟨(k r st' hr).1, h _ _ (k r st' hr).2⟩⟩
  | n e => obtain ⟨v, e, k⟩ := hh; exact ⟨v, e, h _ _ k⟩
  | r b o ag sz => obtain ⟨c, e, v, e2, k⟩ := hh; exact ⟨c, e, v, e2, h _ _ k⟩
  | s b o ag sz => obtain ⟨c, e, v, e2, e3, k⟩ := hh; exact ⟨c, e, v, e2, e3, h _ _ k⟩
  | f c cells v => exact ⟨hh.1, fun b hb => h _ _ (hh.2 b hb)⟩
  | w b o sz cs => obtain ⟨c, e, e2, e3, e4, k⟩ := hh; exact ⟨c, e, e2, e3, e4, h _ _ k⟩
  | wo b o sz cs => obtain ⟨c, e, e2, e3, k⟩ := hh; exact ⟨c, e, e2, e3, h _ _ k⟩
  | ab sz bytes x news =>
    obtain ⟨hs, k⟩ := hh
    refine ⟨hs, ?_⟩
    revert k
    split
    · rintro ⟨k1, k2, k⟩
      refine ⟨k1, k2, ?_⟩
      split
      · rename_i hn; rw [if_pos hn] at k; exact h _ _ k
      · rename_i hn; rw [if_neg hn] at k; exact fun b cap hb hc => h _ _ (k b cap hb hc)
    · rintro ⟨k0, k1, cells, k2, k3, k4, k⟩
      refine ⟨k0, k1, cells, k2, k3, k4, ?_⟩
      split
      · rename_i hn; rw [if_pos hn] at k; exact h _ _ k
      · rename_i hn; rw [if_neg hn] at k
        split
        · rename_i hc; rw [if_pos hc] at k; exact h _ _ k
        · rename_i hc; rw [if_neg hc] at k; exact fun b cap hb hc => h _ _ (k b cap hb hc)
    · exact id
  | a sz bytes x news =>
    obtain ⟨hs, k⟩ := hh
    refine ⟨hs, ?_⟩
    revert k
    split
    · rintro ⟨k1, k2, k⟩
      refine ⟨k1, k2, ?_⟩
      split
      · rename_i hn; rw [if_pos hn] at k; exact h _ _ k
      · rename_i hn; rw [if_neg hn] at k; exact fun b cap hb => h _ _ (k b cap hb)
    · exact fun ⟨k1, k2, k3, k4, k⟩ => ⟨k1, k2, k3, h _ _ k4, fun b' cap' hb => h _ _ (k b' cap' hb)⟩
    · exact id
  | ci g as => obtain ⟨R, k1, k2, k⟩ := hh; exact ⟨R, k1, k2, fun r st' hr => ⟨(k r st' hr).1, h _ _ (k r st' hr).2⟩⟩
  | cp g as => obtain ⟨R, k1, k2, k⟩ := hh; exact ⟨R, k1, k2, fun r hr => h _ _ (k r hr)⟩
  | bad => exact hh

theorem pstep_mono {G : Glob} {C : CallsP} {o : POper} {K K' : X → Prop} {x : X} (h : ∀ x, K x → K' x) (hh : pstep G C o K x) : pstep G C o K' x := by
  unfold pstep at *
  revert hh
  split
  · exact NF.step_mono fun v m => h _
  · exact h _
  · exact id

/-- Something comes of it. -/
theorem NF.step_const {C : CallsP} {x : NF} (hz : x.isZ = false) {m : Mx} {c : Prop} (hh : x.step C m fun _ _ => c) : c := by
  cases x with
  | c0 g as => obtain ⟨R, k1, k2, k⟩ := hh; obtain ⟨r, st', hr, _⟩ := k2 [] (fun _ h => by cases h); exact k r st' hr
  | any => exact hh true
  | x s => exact s.const m c hh
  | ce g as => cases hz
  | n e => obtain ⟨v, e, k⟩ := hh; exact k
  | r b o ag sz => obtain ⟨c, e, v, e2, k⟩ := hh; exact k
  | s b o ag sz => obtain ⟨c, e, v, e2, e3, k⟩ := hh; exact k
  | f c cells v => obtain ⟨b, hb⟩ := m.st.has_fresh; exact hh.2 b hb
  | w b o sz cs => obtain ⟨c, e, e2, e3, e4, k⟩ := hh; exact k
  | wo b o sz cs => obtain ⟨c, e, e2, e3, k⟩ := hh; exact k
  | ab sz bytes x news =>
    obtain ⟨hs, k⟩ := hh
    obtain ⟨b, hb⟩ := m.st.has_fresh
    revert k
    split
    · rintro ⟨_, _, k⟩
      split at k
      · exact k
      · exact k b _ hb (Nat.le_refl _)
    · rintro ⟨_, _, _, _, _, _, k⟩
      split at k
      · exact k
      · split at k
        · exact k
        · exact k b _ hb (Nat.le_refl _)
    · exact False.elim
  | a sz bytes x news =>
    obtain ⟨hs, k⟩ := hh
    obtain ⟨b, hb⟩ := m.st.has_fresh
    revert k
    split
    · rintro ⟨_, _, k⟩
      split at k
      · exact k
      · exact k b 0 hb
    · exact fun ⟨_, _, _, d, _⟩ => d
    · exact False.elim
  | ci g as => obtain ⟨R, k1, ⟨q, st', hr⟩, k⟩ := hh; exact (k q st' hr).2
  | cp g as => obtain ⟨R, k1, ⟨q, hr⟩, k⟩ := hh; exact k q hr
  | bad => exact hh.elim

end Go.Pv
