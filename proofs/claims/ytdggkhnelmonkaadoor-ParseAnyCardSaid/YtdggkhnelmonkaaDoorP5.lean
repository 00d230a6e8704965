/- Which by-value operation each operation of the loaded program is. No condition. -/
import Derived.Test.YtdggkhnelmonkaaDoorP3
namespace Go.Pv

def cVal : Value → Option AV
  | .bool b => some (.d (.bool b))
  | .int k n => some (.d (.int k n))
  | .float k b => some (.d (.flt k b))
  | .string s => some (.d (.str s))
  | .pointer none => some (.d .nilp)
  | .slice none 0 0 => some (.full [])
  | .map none => some (.d .nilm)
  | .nilFunc => some (.d .nilf)
  | .nilIface => some (.d .nili)
  | _ => none
def cArg : Operand → Option Arg
  | .tmp t => some (.t t)
  | .const v => (cVal v).map .c
  | .global g => some (.g g)
  | .func f => some (.c (.d (.fn f [] [])))
def cArgO : Option Operand → Option (Option Arg)
  | none => some none
  | some x => (cArg x).map some
def cArgs (xs : Array Operand) : Option (List Arg) := xs.toList.mapM cArg
def cCells (v : Value) : Option (List AV) := v.cells.toList.mapM cVal

def aggT (P : Program) (t : TypeId) : Option Bool :=
  match P.underlying t with
  | some (.struct _) | some (.array _ _) => some true
  | some _ => some false
  | none => none
def sizeT (P : Program) (t : TypeId) : Option Nat := ((P.info? t).map (·.size)).bind fun n => if n = 0 then none else some n

def isNilConst (P : Program) (t : TypeId) : Operand → Option Nat
  | .const (.pointer none) => match P.underlying t with | some (.pointer _) => some 0 | _ => none
  | .const (.slice none 0 0) => match P.underlying t with | some (.slice _) => some 1 | _ => none
  | .const .nilFunc => match P.underlying t with | some (.func ..) => some 2 | _ => none
  | .const .nilIface => match P.underlying t with | some (.interface _) => some 3 | _ => none
  | _ => none

/-- What kind of cell a type is: 0 a bool, 1 a number, 2 a text. -/
def kindT (P : Program) (t : TypeId) : Option Nat :=
  match P.underlying t with
  | some .bool => some 0
  | some (.int _) => some 1
  | some .string => some 2
  | _ => none
def flatF (P : Program) : Nat → List Field → Option (List Nat)
  | _, [] => some []
  | o, f :: fs => if f.offset = o ∧ f.name ≠ "_" then match kindT P f.type, flatF P (o + 1) fs with | some k, some l => some (k :: l) | _, _ => none else none
/-- Structures, arrays of plain cells, that are held against one another. -/
def eqPlan (P : Program) (t : TypeId) : Option (List Nat) :=
  if P.eqGuardType P.depth t = true ∨ P.stoodInHeld t = true then none else
  match P.underlying t with
  | some (.struct fs) => flatF P 0 fs.toList
  | some (.array n e) => if P.cellsOf e = 1 then (kindT P e).map fun k => List.replicate n k else none
  | _ => none

def cBin (P : Program) (op : BinOp) (t : TypeId) (x y : Operand) : Option POp :=
  match isNilConst P t y with
  | some kd => if op = .eql ∨ op = .neq then (cArg x).map fun a => if kd = 1 then .isNilS (op == .neq) a else .isNil kd (op == .neq) a else none
  | none =>
    match P.underlying t with
    | some .bool => if op = .eql ∨ op = .neq then match cArg x, cArg y with | some a, some b => some (.eqB (op == .neq) a b) | _, _ => none else none
    | some (.int _) | some (.float _) | some .string =>
      match cArg x, cArg y with | some a, some b => some (.bin op a b) | _, _ => none
    | some (.struct _) | some (.array _ _) => if op = .eql ∨ op = .neq then match cArg x, cArg y, eqPlan P t with | some a, some b, some ks => some (.eqAgg (op == .neq) ks a b) | _, _, _ => none else none
    | _ => none

def cUn (op : UnOp) (x : Operand) : Option POp :=
  match op with
  | .not => (cArg x).map .not
  | .neg => (cArg x).map .neg
  | .xor => (cArg x).map .cpl
  | _ => none

def cConv (P : Program) (src dst : TypeId) (x : Operand) : Option POp :=
  match P.underlying src, P.underlying dst with
  | some (.int _), some (.int k) => (cArg x).map (.cvt k)
  | some (.int _), some (.float k) => (cArg x).map (.cvtF k)
  | some (.float .f64), some (.int k) => (cArg x).map (.cvtI k)
  | some .string, some .string => (cArg x).map .same
  | some (.slice e), some .string => match P.underlying e with | some (.int .u8) => (cArg x).map .strOf | _ => none
  | some .string, some (.slice e) => match P.underlying e with | some (.int .u8) => (cArg x).map .bytesOf | _ => none
  | _, _ => none

def cFieldAddr (P : Program) (t : TypeId) (x : Operand) (f : Nat) : Option POp :=
  match P.underlying t with
  | some (.struct fs) => match fs[f]? with
    | some fd => match sizeT P fd.type with | some _ => (cArg x).map (.faddr fd.offset) | none => none
    | none => none
  | _ => none
def cField (P : Program) (t : TypeId) (x : Operand) (f : Nat) : Option POp :=
  match P.underlying t with
  | some (.struct fs) => match fs[f]? with
    | some fd => match sizeT P fd.type, aggT P fd.type with | some sz, some ag => (cArg x).map (.field ag fd.offset sz) | _, _ => none
    | none => none
  | _ => none
def cIndexAddr (P : Program) (t : TypeId) (x i : Operand) : Option POp :=
  match P.underlying t with
  | some (.slice e) => match sizeT P e, cArg x, cArg i with | some sz, some a, some b => some (.iaddr sz a b) | _, _, _ => none
  | some (.array n e) => match sizeT P e, cArg x, cArg i with | some sz, some a, some b => some (.iaddrA n sz a b) | _, _, _ => none
  | _ => none
def cIndex (P : Program) (t : TypeId) (x i : Operand) : Option POp :=
  match P.underlying t with
  | some .string => match cArg x, cArg i with | some a, some b => some (.idxS a b) | _, _ => none
  | some (.array n e) => match sizeT P e, aggT P e, cArg x, cArg i with | some sz, some ag, some a, some b => some (.idxA ag n sz a b) | _, _, _, _ => none
  | _ => none
def cSlice (P : Program) (t : TypeId) (x : Operand) (lo hi mx : Option Operand) : Option POp :=
  match mx with
  | some _ => none
  | none =>
    match P.underlying t, cArg x, cArgO lo, cArgO hi with
    | some (.slice e), some a, some l, some h => (sizeT P e).map fun sz => .slc sz a l h
    | some .string, some a, some l, some h => some (.slcS a l h)
    | some (.array n e), some a, some l, some h => (sizeT P e).map fun sz => .slcA n sz a l h
    | _, _, _, _ => none
def cBuildParts (P : Program) (fs : Array Field) : List (Nat × Operand) → Option (List (Nat × Nat × Arg))
  | [] => some []
  | (i, x) :: rest =>
    match fs[i]?, cArg x, cBuildParts P fs rest with
    | some fd, some a, some r => (sizeT P fd.type).map fun sz => (fd.offset, sz, a) :: r
    | _, _, _ => none
def cBuildPartsA (sz : Nat) : List (Nat × Operand) → Option (List (Nat × Nat × Arg))
  | [] => some []
  | (i, x) :: rest =>
    match cArg x, cBuildPartsA sz rest with
    | some a, some r => some ((i * sz, sz, a) :: r)
    | _, _ => none
def cBuild (P : Program) (t : TypeId) (parts : Array (Nat × Operand)) : Option POp :=
  match (P.info? t).bind (·.zero), P.underlying t with
  | some z, some (.struct fs) =>
    match cCells z, cBuildParts P fs parts.toList, fs.toList.mapM (fun f => (P.info? f.type).map fun i => (f.offset, i.size)) with
    | some zs, some ps, some _ => some (.bld zs ps)
    | _, _, _ => none
  | some z, some (.array _ e) =>
    match cCells z, sizeT P e with
    | some zs, some sz => (cBuildPartsA sz parts.toList).map (.bld zs)
    | _, _ => none
  | _, _ => none
def cBuildSlice (P : Program) (t : TypeId) (len : Nat) (parts : Array (Nat × Operand)) : Option POp :=
  match P.underlying t with
  | some (.slice e) =>
    match P.info? e, sizeT P e, cArgs (parts.map (·.2)) with
    | some ie, some sz, some as =>
      match ie.zero with
      | some z => if parts.toList.map (·.1) = List.range len ∧ len * sz ≤ 2 ^ 24 ∧ z.cells.size = sz then some (.bsl sz as) else none
      | none => none
    | _, _, _ => none
  | _ => none
def cLoad (P : Program) (st : Bool) (t : TypeId) (x : Operand) : Option POp :=
  match sizeT P t, aggT P t, cArg x with
  | some sz, some ag, some a => some (.load ag sz a st)
  | _, _, _ => none
def cStore (P : Program) (t : TypeId) (x v : Operand) : Option POp :=
  match sizeT P t, cArg x, cArg v with
  | some sz, some a, some b => some (.store sz a b)
  | _, _, _ => none
def cZero (P : Program) (t : TypeId) : Option AV :=
  match (P.info? t).bind (·.zero) with
  | some (.agg cs) => (cs.toList.mapM cVal).map .agg
  | some z => cVal z
  | none => none
def cTassert (P : Program) (t : TypeId) (x : Operand) : Option POp :=
  match P.underlying t with
  | some (.interface _) => none
  | some _ => match cZero P t, cArg x with | some z, some a => some (.tassert t z a) | _, _ => none
  | none => none
def cBox (P : Program) (t : TypeId) (x : Operand) : Option POp :=
  match sizeT P t, cArg x with
  | some sz, some a => some (.box sz a)
  | _, _ => none
def cAlloc (P : Program) (t : TypeId) : Option POp :=
  match (P.info? t).bind (·.zero) with
  | some z => (cCells z).map .alloc
  | none => none
def cMake (P : Program) (t : TypeId) (l c : Operand) : Option POp :=
  match P.underlying t with
  | some (.slice e) =>
    match P.info? e, sizeT P e, cArg l, cArg c with
    | some ie, some sz, some a, some b =>
      match ie.zero with
      | some z => match cCells z with | some zs => if zs.length = sz ∧ 0 < ie.bytes then some (.make sz ie.bytes zs a b) else none | none => none
      | none => none
    | _, _, _, _ => none
  | _ => none

def cBuiltin (P : Program) (b : Builtin) (ts : Array TypeId) (xs : Array Operand) : Option POp :=
  match b, xs.toList, ts.toList with
  | .len, [x], [t] =>
    match P.underlying t with
    | some (.slice _) => (cArg x).map .len
    | some .string => (cArg x).map .lenS
    | _ => none
  | .append, [x, y], [t, u] =>
    match P.underlying t with
    | some (.slice e) =>
      match P.info? e, sizeT P e, cArg x, cArg y with
      | some ie, some sz, some a, some b =>
        match ie.zero with
        | some z => if z.cells.size = sz ∧ 0 < ie.bytes then
            match P.underlying u with
            | some (.slice e') => if e' = e then some (.app sz ie.bytes a b) else none
            | some .string => if sz = 1 ∧ ie.bytes = 1 then some (.appS a b) else none
            | _ => none
          else none
        | none => none
      | _, _, _, _ => none
    | _ => none
  | .copy, [x, y], [t, u] =>
    match P.underlying t, P.underlying u with
    | some (.slice e), some (.slice _) =>
      match sizeT P e, cArg x, cArg y with
      | some sz, some a, some b => some (.copy sz a b)
      | _, _, _ => none
    | _, _ => none
  | .clear, [x], [t] =>
    match P.underlying t with
    | some (.slice e) =>
      match sizeT P e, cZero P e, cArg x with
      | some sz, some z, some a => if z.cells.length = sz ∧ z.cells.all AV.sc = true then some (.clr z.cells a) else none
      | _, _, _ => none
    | _ => none
  | .max, x :: rest, _ => match cArg x, rest.mapM cArg with | some a, some r => some (.minmax true a r) | _, _ => none
  | .min, x :: rest, _ => match cArg x, rest.mapM cArg with | some a, some r => some (.minmax false a r) | _, _ => none
  | _, _, _ => none

/-- What kind of key a map's keys are. -/
def cKey (P : Program) (t : TypeId) : Option (KK × TypeId) :=
  match P.underlying t with
  | some (.map k e) => match P.underlying k with
    | some (.int q) => some (.int q, e)
    | some .string => some (.str, e)
    | some .bool => some (.bool, e)
    | _ => none
  | _ => none
def cMake0 (P : Program) (t : TypeId) : Option POp := (cKey P t).map fun p => .mkmap p.1
def cMapIns (P : Program) (t : TypeId) (m k v : Operand) : Option POp :=
  match cKey P t, cArg m, cArg k, cArg v with
  | some p, some a, some b, some c => some (.mins p.1 a b c)
  | _, _, _, _ => none
def cLookup (P : Program) (t : TypeId) (m k : Operand) (ok : Bool) : Option POp :=
  match cKey P t, cArg m, cArg k with
  | some p, some a, some b => (cZero P p.2).map fun z => .mget p.1 z ok a b
  | _, _, _ => none
/-- A function that is entered as it stands. -/
def entered (P : Program) (f : FuncId) : Bool :=
  match P.funcs[f]? with
  | some fn => fn.name != "runtime.NumGoroutine" && fn.body.isSome
  | none => false

/-- A function of the library that has no text here: a float's bits, and back. -/
def native (P : Program) (f : FuncId) : Option Nat :=
  match P.funcs[f]? with
  | some fn => if fn.body.isNone = true ∧ fn.origin = "" then (if fn.name = "math.Float64bits" then some 0 else if fn.name = "math.Float64frombits" then some 1 else none) else none
  | none => none

def cCall (P : Program) (st pure : Bool) (c : Call) : Option POp :=
  match c.callee with
  | .builtin b => cBuiltin P b c.argTypes c.args
  | .value (.func f) => if entered P f = true then (cArgs c.args).map fun as => if pure = true then .callp f as else if st = true then .call f as else .call0 f as else match native P f, c.args.toList with | some k, [x] => (cArg x).map (.nat k) | _, _ => none
  | .value x => match cArg x, cArgs c.args with | some a, some as => some (if pure = true then .callvp a as else if st = true then .callv a as else .callv0 a as) | _, _ => none
  | _ => none

/-- 'st': loads are for good in their region; 'pure': calls leave the state alone. -/
def comp (P : Program) (st pure : Bool) (o : Oper) : Option POp :=
  match o.op with
  | .move x | .assign x => (cArg x).map .mov
  | .pick c a b => match cArg c, cArg a, cArg b with | some c, some a, some b => some (.pick c a b) | _, _, _ => none
  | .binOp op t x y _ => cBin P op t x y
  | .unOp op _ x => cUn op x
  | .convert src dst x => cConv P src dst x
  | .nilCheck x => (cArg x).map .nilchk
  | .fieldAddr t x f => cFieldAddr P t x f
  | .field t x f => cField P t x f
  | .indexAddr t x i => cIndexAddr P t x i
  | .index t x i => cIndex P t x i
  | .extract x n => (cArg x).map fun a => .ext a n
  | .slice t x lo hi mx => cSlice P t x lo hi mx
  | .build t parts => cBuild P t parts
  | .buildSlice t len parts => cBuildSlice P t len parts
  | .makeFunc (.func f) first captured => match cArgs first, cArgs captured with | some a, some b => if entered P f = true then some (.mkfn f a b) else none | _, _ => none
  | .makeInterface t x => match P.underlying t with | some (.interface _) => none | some _ => (cArg x).map (.mki t) | none => none
  | .load t x => cLoad P st t x
  | .store t x v => cStore P t x v
  | .box t x => cBox P t x
  | .alloc t => cAlloc P t
  | .makeSlice t l c => cMake P t l c
  | .call c => cCall P st pure c
  | .typeAssert x _ t true => cTassert P t x
  | .makeMap t none => cMake0 P t
  | .insert t m k x => cMapIns P t m k x
  | .mapUpdate t m k x => cMapIns P t m k x
  | .lookup t m k ok => cLookup P t m k ok
  | _ => none

/-- Appends to nothing that give a variable's row. -/
def cAppB (P : Program) (c : Call) : Option POp :=
  match c.callee with
  | .builtin .append => match cBuiltin P .append c.argTypes c.args with
    | some (.app sz bytes x y) => some (.appB sz bytes x y)
    | _ => none
  | _ => none
def cStoreo (P : Program) (t : TypeId) (x v : Operand) : Option POp :=
  match sizeT P t, cArg x, cArg v with
  | some sz, some a, some b => some (.storeo sz a b)
  | _, _, _ => none
def cCallE (P : Program) (c : Call) : Option POp :=
  match c.callee with
  | .value (.func f) => if entered P f = true then (cArgs c.args).map (.callE f) else none
  | _ => none
/-- 'k': 1: stores stand behind all that looks; 2: what is appended to is a variable's row. -/
def comp2 (P : Program) (st pure : Bool) (k : Nat) (o : Oper) : Option POp :=
  match o.op with
  | .store t x v => if k % 2 = 1 then cStoreo P t x v else comp P st pure o
  | .call c => if k / 4 % 2 = 1 then (match cCallE P c with | some p => some p | none => comp P st pure o) else if k / 2 % 2 = 1 then (match cAppB P c with | some p => some p | none => comp P st pure o) else comp P st pure o
  | _ => comp P st pure o

def compOper (P : Program) (st pure : Bool) (k : Nat) (ops : Array Oper) (o : Oper) : Option POper :=
  match comp2 P st pure k o with
  | none => none
  | some po =>
    match o.guard with
    | none => some ⟨o.dst, po, none⟩
    | some (j, b) => match (ops[j]?).bind (·.dst) with
      | some t => some ⟨o.dst, po, some (t, b)⟩
      | none => none

/-- The code by value. -/
inductive PCode where
  | skip
  | region (ops : List POper)
  | seq (a b : PCode)
  | cond (c : Arg) (thn els : PCode)
  | block (id : Nat) (body : PCode)
  | loop (keep : Option (List Nat)) (body : PCode)
  | keep (l : List Nat) (body : PCode)
  | exit (id : Nat)
  | ret
  | die (n : Nat) (ops : List POper) (x : Arg)

/-- The last of a region, where it is a panic of the text's own. -/
def dieOf (ops : Array Oper) : Option Operand :=
  match ops.toList.getLast? with
  | some o => match o.op, o.guard with | .panic x, none => some x | _, _ => none
  | none => none
/-- Does all stand ahead of it, in any order? -/
def dieB (P : Program) (ops : Array Oper) (pl : List POper) : Bool :=
  P.follows .mixedOrders && lexR ops (pl ++ [nopO]) && decide (ops.size = pl.length + 1) && fwdB ops && (List.range pl.length).all fun i => ((masks ops.toList #[]).getD pl.length 0).testBit i
/-- What lays a new variable as late as may be. -/
def ordGo (ops : Array Oper) (pl : List POper) : Nat → Array Bool → List Nat
  | 0, _ => []
  | f + 1, listed => match (Region.ready .any ops listed).find? (fun k => match pl[k]? with | some o => o.op.eff != .F && o.op.eff != .Z | none => false) with
    | some k => k :: ordGo ops pl f (listed.setIfInBounds k true)
    | none => match (Region.ready .any ops listed).find? (fun k => match pl[k]? with | some o => o.op.eff != .Z | none => false) with
    | some k => k :: ordGo ops pl f (listed.setIfInBounds k true)
    | none => match Region.ready .any ops listed with
      | [] => []
      | k :: _ => k :: ordGo ops pl f (listed.setIfInBounds k true)
def ordOf (ops : Array Oper) (pl : List POper) : List Nat := ordGo ops pl ops.size (Array.replicate ops.size false)
/-- 'md': for each region that draws, how: 0 plain, 1 calls are pure, 2 loads are for good, 3 both; 4 more: stores stand behind all that looks; 8 more: what is appended to is a variable's row. -/
def compCode (P : Program) (md : Nat → Nat) (N : Nat) : Code → Option PCode
  | .skip => some .skip
  | .label _ => some .skip
  | .scope c => compCode P md N c
  | .region id ops draw =>
    match dieOf ops with
    | some x =>
      match ops.toList.dropLast.mapM (compOper P (md id % 4 = 2 ∨ md id % 4 = 3) (md id % 4 = 1 ∨ md id % 4 = 3) (md id / 4) ops), cArg x with
      | some pl, some y => if (pl.all fun o => match o.dst with | some d => decide (d < N) | none => true) = true ∧ (draw = false ∨ dieB P ops pl = true) then some (.die P.funcs.size pl y) else none
      | _, _ => none
    | none =>
    match ops.toList.mapM (compOper P (md id % 4 = 2 ∨ md id % 4 = 3) (md id % 4 = 1 ∨ md id % 4 = 3) (md id / 4) ops) with
    | some pl => if (pl.all fun o => match o.dst with | some d => decide (d < N) | none => true) = true ∧
        (draw = false ∨ (P.follows .mixedOrders = true ∧ lexR ops pl = true ∧ pl.length = ops.size)) then some (.region pl)
      else if (pl.all fun o => match o.dst with | some d => decide (d < N) | none => true) = true ∧ 32 ≤ md id ∧ P.follows .mixedOrders = true ∧ lexOR ops pl (ordOf ops pl) = true ∧ (ordOf ops pl).length = ops.size ∧ draw = true ∧
        ((List.range pl.length).all fun k => (ordOf ops pl).contains k) = true then some (.region ((ordOf ops pl).filterMap (pl[·]?))) else none
    | none => none
  | .seq a b => match compCode P md N a, compCode P md N b with | some x, some y => some (.seq x y) | _, _ => none
  | .cond c a b => match cArg c, compCode P md N a, compCode P md N b with | some d, some x, some y => some (.cond d x y) | _, _, _ => none
  | .block id c => (compCode P md N c).map (.block id)
  | .loop c => (compCode P md N c).map (.loop none)
  | .exit id => some (.exit id)
  | .ret => some .ret
  | _ => none

/-- Without what is kept from round to round. -/
def PCode.er : PCode → PCode
  | .seq a b => .seq a.er b.er
  | .cond c a b => .cond c a.er b.er
  | .block id c => .block id c.er
  | .loop _ c => .loop none c.er
  | .keep _ c => c.er
  | .skip => .skip
  | .region l => .region l
  | .die n l x => .die n l x
  | .exit id => .exit id
  | .ret => .ret

inductive PRes where
  | tmp (t : Nat)
  | cell (a : Nat) (ag : Bool) (sz : Nat)

structure PFun where
  body : PCode
  nargs : Nat
  ntmps : Nat
  results : List PRes

def PFun.er (p : PFun) : PFun := ⟨p.body.er, p.nargs, p.ntmps, p.results⟩

def compRes (P : Program) : ResultVar → Option PRes
  | .tmp t => some (.tmp t)
  | .cell a t => match sizeT P t, aggT P t with | some sz, some ag => some (.cell a ag sz) | _, _ => none

def compFun (P : Program) (md : Nat → Nat) (f : FuncId) : Option PFun :=
  match P.funcs[f]? with
  | none => none
  | some fn => match fn.body, fn.results.toList.mapM (compRes P) with
    | some c, some rs => (compCode P md fn.ntmps c).map fun b => ⟨b, fn.params.size + fn.nfree, fn.ntmps, rs⟩
    | _, _ => none

end Go.Pv
