/- By-value reading of the machine's memory: data, abstract values, the abstract state, and how they stand to a world. No condition. -/
import Derived.WalkKit
namespace Go.Pv

/-- Memory that nobody writes any more: block, offset. -/
abbrev Mem := Nat → Nat → Option Value
def MLe (M M' : Mem) : Prop := ∀ b o v, M b o = some v → M' b o = some v
theorem MLe.refl (M : Mem) : MLe M M := fun _ _ _ h => h
theorem MLe.trans {M M' M'' : Mem} (h : MLe M M') (k : MLe M' M'') : MLe M M'' := fun b o v e => k b o v (h b o v e)

/-- Pure data: what a cell holds, slices by value. -/
inductive Dat where
  | int (k : IntKind) (n : Int)
  | bool (b : Bool)
  | flt (k : FloatKind) (bits : Nat)
  | str (s : ByteArray)
  | sl (rows : List (List Dat))
  | ptr (b off : Nat)
  | nilp
  | nilf
  | nili
  | nilm
  | mapr (b : Nat)
  | fn (f : FuncId) (first captured : List Dat)
  | ifc (t : TypeId) (x : Dat)
  | ifa (t : TypeId) (cells : List Dat)
  deriving Inhabited

inductive DRel (M : Mem) : Dat → Value → Prop where
  | int (k : IntKind) (n : Int) : DRel M (.int k n) (.int k n)
  | bool (b : Bool) : DRel M (.bool b) (.bool b)
  | flt (k : FloatKind) (b : Nat) : DRel M (.flt k b) (.float k b)
  | str (s : ByteArray) : DRel M (.str s) (.string s)
  | ptr (b off : Nat) : DRel M (.ptr b off) (.pointer (some ⟨b, off, none⟩))
  | nilp : DRel M .nilp (.pointer none)
  | nilf : DRel M .nilf .nilFunc
  | nili : DRel M .nili .nilIface
  | nilm : DRel M .nilm (.map none)
  | mapr (b : Nat) : DRel M (.mapr b) (.map (some b))
  | slE (a : Option Addr) (cap : Nat) : DRel M (.sl []) (.slice a 0 cap)
  | sl (rows : List (List Dat)) (b off cap size : Nat) (vs : Nat → Value) (hc : rows.length ≤ cap)
      (hs : ∀ r ∈ rows, r.length = size)
      (hm : ∀ o, o < rows.length * size → M b (off + o) = some (vs o))
      (hr : ∀ i j (hi : i < rows.length) (hj : j < rows[i].length), DRel M rows[i][j] (vs (i * size + j))) :
      DRel M (.sl rows) (.slice (some ⟨b, off, none⟩) rows.length cap)
  | fn (f : FuncId) (first captured : List Dat) (fs cs : List Value) (hf : fs.length = first.length) (hc : cs.length = captured.length)
      (h1 : ∀ i (h : i < first.length) (h' : i < fs.length), DRel M first[i] fs[i])
      (h2 : ∀ i (h : i < captured.length) (h' : i < cs.length), DRel M captured[i] cs[i]) :
      DRel M (.fn f first captured) (.func (.func f) fs.toArray cs.toArray)
  | ifc (t : TypeId) (x : Dat) (v : Value) (h : DRel M x v) : DRel M (.ifc t x) (.iface t v)
  | ifa (t : TypeId) (cells : List Dat) (cs : List Value) (hf : cs.length = cells.length)
      (h1 : ∀ i (h : i < cells.length) (h' : i < cs.length), DRel M cells[i] cs[i]) :
      DRel M (.ifa t cells) (.iface t (.agg cs.toArray))

theorem DRel.mono {M M' : Mem} (hm : MLe M M') {x : Dat} {v : Value} (h : DRel M x v) : DRel M' x v := by
  induction h with
  | int k n => exact .int k n
  | bool b => exact .bool b
  | flt k b => exact .flt k b
  | str s => exact .str s
  | ptr b off => exact .ptr b off
  | nilp => exact .nilp
  | nilf => exact .nilf
  | nili => exact .nili
  | nilm => exact .nilm
  | mapr b => exact .mapr b
  | slE a cap => exact .slE a cap
  | sl rows b off cap size vs hc hs hm' hr ih => exact .sl rows b off cap size vs hc hs (fun o ho => hm _ _ _ (hm' o ho)) ih
  | fn f first captured fs cs hf hc h1 h2 ih1 ih2 => exact .fn f first captured fs cs hf hc ih1 ih2
  | ifc t x v h ih => exact .ifc t x v ih
  | ifa t cells cs hf h1 ih1 => exact .ifa t cells cs hf ih1

/-- No aggregate, no tuple: one cell. -/
theorem DRel.oneCell {M : Mem} {x : Dat} {v : Value} (h : DRel M x v) : v.cells = #[v] ∧ (∀ c, v ≠ .agg c) ∧ (∀ c, v ≠ .tuple c) := by
  cases h <;> exact ⟨rfl, fun _ => by simp, fun _ => by simp⟩

/-- What a slot holds. -/
inductive AV where
  | undef
  | d (x : Dat)
  | full (rows : List (List Dat))
  | own (b : Nat) (rows : List (List Dat)) (cap : Nat)
  | bsl (b off len cap : Nat)
  | elt (cells : List Dat)
  | agg (cells : List AV)
  | tup (vs : List AV)
  deriving Inhabited

inductive AVRel (M : Mem) : AV → Value → Prop where
  | undef (v : Value) : AVRel M .undef v
  | d (x : Dat) (v : Value) (h : DRel M x v) : AVRel M (.d x) v
  | fullE : AVRel M (.full []) (.slice none 0 0)
  | full (rows : List (List Dat)) (b size : Nat) (vs : Nat → Value)
      (hs : ∀ r ∈ rows, r.length = size)
      (hm : ∀ o, o < rows.length * size → M b o = some (vs o))
      (hr : ∀ i j (hi : i < rows.length) (hj : j < rows[i].length), DRel M rows[i][j] (vs (i * size + j))) :
      AVRel M (.full rows) (.slice (some ⟨b, 0, none⟩) rows.length rows.length)
  | own (b : Nat) (rows : List (List Dat)) (cap size : Nat) (vs : Nat → Value) (hc : rows.length ≤ cap)
      (hs : ∀ r ∈ rows, r.length = size)
      (hm : ∀ o, o < rows.length * size → M b o = some (vs o))
      (hr : ∀ i j (hi : i < rows.length) (hj : j < rows[i].length), DRel M rows[i][j] (vs (i * size + j))) :
      AVRel M (.own b rows cap) (.slice (some ⟨b, 0, none⟩) rows.length cap)
  | bsl (b off len cap : Nat) (hc : len ≤ cap) : AVRel M (.bsl b off len cap) (.slice (some ⟨b, off, none⟩) len cap)
  | elt (cells : List Dat) (b off : Nat) (vs : Nat → Value)
      (hm : ∀ o, o < cells.length → M b (off + o) = some (vs o))
      (hr : ∀ o (h : o < cells.length), DRel M cells[o] (vs o)) :
      AVRel M (.elt cells) (.pointer (some ⟨b, off, none⟩))
  | agg (cells : List AV) (cs : List Value) (hl : cs.length = cells.length)
      (h1 : ∀ i (h : i < cells.length) (h' : i < cs.length), AVRel M cells[i] cs[i]) : AVRel M (.agg cells) (.agg cs.toArray)
  | tup (vs : List AV) (cs : List Value) (hl : cs.length = vs.length)
      (h1 : ∀ i (h : i < vs.length) (h' : i < cs.length), AVRel M vs[i] cs[i]) : AVRel M (.tup vs) (.tuple cs.toArray)

theorem AVRel.mono {M M' : Mem} (hm : MLe M M') {x : AV} {v : Value} (h : AVRel M x v) : AVRel M' x v := by
  induction h with
  | undef v => exact .undef v
  | d x v h => exact .d x v (h.mono hm)
  | fullE => exact .fullE
  | full rows b size vs hs hm' hr => exact .full rows b size vs hs (fun o ho => hm _ _ _ (hm' o ho)) (fun i j hi hj => (hr i j hi hj).mono hm)
  | own b rows cap size vs hc hs hm' hr => exact .own b rows cap size vs hc hs (fun o ho => hm _ _ _ (hm' o ho)) (fun i j hi hj => (hr i j hi hj).mono hm)
  | bsl b off len cap hc => exact .bsl b off len cap hc
  | elt cells b off vs hm' hr => exact .elt cells b off vs (fun o ho => hm _ _ _ (hm' o ho)) (fun o h => (hr o h).mono hm)
  | agg cells cs hl h1 ih => exact .agg cells cs hl ih
  | tup vs cs hl h1 ih => exact .tup vs cs hl ih

/-- The abstract state: variables in memory (boxes), rows that may grow in place (tokens), package-level variables. -/
inductive KK where
  | int (k : IntKind)
  | str
  | bool
  | cells (ks : List Nat)
/-- A map's content: what its keys are; keys and elements, as they were laid. -/
structure MapC where
  kd : KK
  es : List (AV × AV)
structure Tok where
  len : Nat
  cap : Nat
  size : Nat
  mp : Option MapC

structure St where
  box : Nat → Option (List AV)
  tok : Nat → Option Tok
  fin : ∃ N, ∀ b, N ≤ b → box b = none ∧ tok b = none

theorem St.ext' {s t : St} (hb : s.box = t.box) (ht : s.tok = t.tok) : s = t := by
  cases s; cases t; simp at hb ht; subst hb; subst ht; rfl

def St.fresh (s : St) (b : Nat) : Prop := s.box b = none ∧ s.tok b = none
theorem St.has_fresh (s : St) : ∃ b, s.fresh b := let ⟨N, h⟩ := s.fin; ⟨N, h N (Nat.le_refl _)⟩
theorem St.has_fresh_ne (s : St) (c : Nat) : ∃ b, b ≠ c ∧ s.fresh b :=
  let ⟨N, h⟩ := s.fin; ⟨max N (c + 1), by omega, h _ (by omega)⟩

def St.setBox (s : St) (b : Nat) (cells : List AV) : St where
  box := fun c => if c = b then some cells else s.box c
  tok := s.tok
  fin := by
    obtain ⟨N, h⟩ := s.fin
    refine ⟨max N (b + 1), fun c hc => ?_⟩
    have := h c (by omega)
    rw [if_neg (by omega)]
    exact this
def St.setTok (s : St) (b : Nat) (t : Tok) : St where
  box := s.box
  tok := fun c => if c = b then some t else s.tok c
  fin := by
    obtain ⟨N, h⟩ := s.fin
    refine ⟨max N (b + 1), fun c hc => ?_⟩
    have := h c (by omega)
    rw [if_neg (by omega)]
    exact this
def St.dropTok (s : St) (b : Nat) : St where
  box := s.box
  tok := fun c => if c = b then none else s.tok c
  fin := by
    obtain ⟨N, h⟩ := s.fin
    refine ⟨N, fun c hc => ?_⟩
    have := h c hc
    split <;> simp [this]
def St.dropBox (s : St) (b : Nat) : St where
  box := fun c => if c = b then none else s.box c
  tok := s.tok
  fin := by
    obtain ⟨N, h⟩ := s.fin
    refine ⟨N, fun c hc => ?_⟩
    have := h c hc
    split <;> simp [this]

@[simp] theorem St.box_setBox (s : St) (b c : Nat) (l : List AV) : (s.setBox b l).box c = if c = b then some l else s.box c := rfl
@[simp] theorem St.tok_setBox (s : St) (b : Nat) (l : List AV) : (s.setBox b l).tok = s.tok := rfl
@[simp] theorem St.box_setTok (s : St) (b : Nat) (t : Tok) : (s.setTok b t).box = s.box := rfl
@[simp] theorem St.tok_setTok (s : St) (b c : Nat) (t : Tok) : (s.setTok b t).tok c = if c = b then some t else s.tok c := rfl
@[simp] theorem St.box_dropTok (s : St) (b : Nat) : (s.dropTok b).box = s.box := rfl
@[simp] theorem St.tok_dropTok (s : St) (b c : Nat) : (s.dropTok b).tok c = if c = b then none else s.tok c := rfl
@[simp] theorem St.box_dropBox (s : St) (b c : Nat) : (s.dropBox b).box c = if c = b then none else s.box c := rfl
@[simp] theorem St.tok_dropBox (s : St) (b : Nat) : (s.dropBox b).tok = s.tok := rfl

/-- A key, and a value of the machine that is one. -/
inductive KRel : KK → AV → Value → Prop where
  | int (k : IntKind) (n : Int) : KRel (.int k) (.d (.int k n)) (.int k n)
  | str (s : ByteArray) : KRel .str (.d (.str s)) (.string s)
  | bool (b : Bool) : KRel .bool (.d (.bool b)) (.bool b)
  | cells (ks : List Nat) (xs : List AV) (cs : List Value) (hl : xs.length = ks.length) (hc : cs.length = xs.length)
      (h : ∀ i (h : i < xs.length) (h' : i < cs.length) (hk : i < ks.length), (ks[i] = 1 ∧ ∃ k n, xs[i] = .d (.int k n) ∧ cs[i] = .int k n) ∨ (ks[i] = 0 ∧ ∃ b, xs[i] = .d (.bool b) ∧ cs[i] = .bool b) ∨ (ks[i] = 2 ∧ ∃ s, xs[i] = .d (.str s) ∧ cs[i] = .string s)) : KRel (.cells ks) (.agg xs) (.agg cs.toArray)
/-- A map's entries. -/
def MRel (M : Mem) (c : MapC) (l : List MapEntry) : Prop := l.length = c.es.length ∧ ∀ i (h : i < c.es.length) (h' : i < l.length), KRel c.kd c.es[i].1 l[i].key ∧ AVRel M c.es[i].2 l[i].val
theorem MRel.mono {M M' : Mem} (hm : MLe M M') {c : MapC} {l : List MapEntry} (h : MRel M c l) : MRel M' c l := ⟨h.1, fun i a b => ⟨(h.2 i a b).1, (h.2 i a b).2.mono hm⟩⟩
/-- A block that is followed: a row that may grow, or a map. -/
def TokAt (M : Mem) (k : Tok) (blk : Option Obj) (mb : Nat → Option Value) : Prop :=
  match k.mp with
  | none => k.len ≤ k.cap ∧ (∃ t cs, blk = some (.cells cs t (0, 0)) ∧ cs.size = k.cap * k.size) ∧ ∀ o, k.len * k.size ≤ o → mb o = none
  | some c => (∃ es clock, blk = some (.map es clock) ∧ MRel M c es.toList) ∧ ∀ o, mb o = none
theorem TokAt.of {M M' : Mem} {k : Tok} {blk blk' : Option Obj} {mb mb' : Nat → Option Value} (h : TokAt M k blk mb) (hb : blk' = blk) (hm : ∀ o, mb o = none → mb' o = none) (hM : MLe M M') : TokAt M' k blk' mb' := by
  subst hb
  unfold TokAt at *
  split at h
  · exact ⟨h.1, h.2.1, fun o ho => hm o (h.2.2 o ho)⟩
  · obtain ⟨⟨es, clock, h1, h2⟩, h3⟩ := h
    exact ⟨⟨es, clock, h1, h2.mono hM⟩, fun o => hm o (h3 o)⟩
theorem TokAt.lt {M : Mem} {k : Tok} {w : World} {b : Nat} {mb : Nat → Option Value} (h : TokAt M k (w.heap[b]?) mb) : b < w.heap.size := by
  unfold TokAt at h
  split at h
  · obtain ⟨_, ⟨t, cs, h1, _⟩, _⟩ := h
    exact (Array.getElem?_eq_some_iff.1 h1).1
  · obtain ⟨⟨es, clock, h1, _⟩, _⟩ := h
    exact (Array.getElem?_eq_some_iff.1 h1).1
/-- The package-level variables that nobody writes: what they hold. -/
abbrev Glob := Nat → Option (List Dat)
/-- How a state stands to a world. -/
structure WRel (G : Glob) (M : Mem) (s : St) (w : World) : Prop where
  box : ∀ b cells, s.box b = some cells → ∃ t cs, w.heap[b]? = some (.cells cs t (0, 0)) ∧ cs.size = cells.length ∧
    ∀ i (h : i < cells.length) (h' : i < cs.size), AVRel M cells[i] cs[i]
  boxM : ∀ b cells, s.box b = some cells → ∀ o, M b o = none
  boxT : ∀ b cells, s.box b = some cells → s.tok b = none
  tok : ∀ b k, s.tok b = some k → TokAt M k (w.heap[b]?) (M b)
  imm : ∀ b o v, M b o = some v → w.cell? ⟨b, o, none⟩ = some v
  glob : ∀ g cells, G g = some cells → ∀ i (h : i < cells.length), ∃ v, M g i = some v ∧ DRel M cells[i] v

theorem WRel.box_lt {G : Glob} {M : Mem} {s : St} {w : World} (h : WRel G M s w) {b : Nat} {cells : List AV} (hb : s.box b = some cells) : b < w.heap.size := by
  obtain ⟨t, cs, h1, _⟩ := h.box b cells hb
  exact (Array.getElem?_eq_some_iff.1 h1).1
theorem WRel.tok_lt {G : Glob} {M : Mem} {s : St} {w : World} (h : WRel G M s w) {b : Nat} {k : Tok} (hb : s.tok b = some k) : b < w.heap.size := by
  exact (h.tok b k hb).lt
theorem WRel.imm_lt {G : Glob} {M : Mem} {s : St} {w : World} (h : WRel G M s w) {b o : Nat} {v : Value} (hb : M b o = some v) : b < w.heap.size :=
  World.block_lt_of_cell? w ⟨b, o, none⟩ (h.imm b o v hb)
theorem WRel.fresh {G : Glob} {M : Mem} {s : St} {w : World} (h : WRel G M s w) : s.fresh w.heap.size := by
  constructor
  · cases e : s.box w.heap.size with
    | none => rfl
    | some c => exact absurd (h.box_lt e) (Nat.lt_irrefl _)
  · cases e : s.tok w.heap.size with
    | none => rfl
    | some c => exact absurd (h.tok_lt e) (Nat.lt_irrefl _)
theorem WRel.M_new {G : Glob} {M : Mem} {s : St} {w : World} (h : WRel G M s w) {b : Nat} (hb : w.heap.size ≤ b) (o : Nat) : M b o = none := by
  cases e : M b o with
  | none => rfl
  | some v => exact absurd (h.imm_lt e) (by omega)

/-- What a step, or a call, may have done. -/
structure Frame (s s' : St) (M M' : Mem) (w w' : World) : Prop where
  os : w'.os = w.os
  tape : w'.tape = w.tape
  output : w'.output = w.output
  size : w.heap.size ≤ w'.heap.size
  blk : ∀ b, b < w.heap.size → s.box b = none → s.tok b = none → w'.heap[b]? = w.heap[b]?
  mem : ∀ b o, b < w.heap.size → s.tok b = none → s.box b = none → M' b o = M b o
  mle : MLe M M'
  domB : ∀ b, b < w.heap.size → s.box b = none → s.tok b = none → s'.box b = none ∧ s'.tok b = none

theorem Frame.refl (s : St) (M : Mem) (w : World) : Frame s s M M w w :=
  ⟨rfl, rfl, rfl, Nat.le_refl _, fun _ _ _ _ => rfl, fun _ _ _ _ _ => rfl, .refl _, fun _ _ h k => ⟨h, k⟩⟩
theorem Frame.trans {s s1 s2 : St} {M M1 M2 : Mem} {w w1 w2 : World} (h : Frame s s1 M M1 w w1) (k : Frame s1 s2 M1 M2 w1 w2) : Frame s s2 M M2 w w2 where
  os := k.os.trans h.os
  tape := k.tape.trans h.tape
  output := k.output.trans h.output
  size := Nat.le_trans h.size k.size
  blk := fun b hb h1 h2 => by
    obtain ⟨d1, d2⟩ := h.domB b hb h1 h2
    rw [k.blk b (Nat.lt_of_lt_of_le hb h.size) d1 d2, h.blk b hb h1 h2]
  mem := fun b o hb h1 h2 => by
    obtain ⟨d1, d2⟩ := h.domB b hb h2 h1
    rw [k.mem b o (Nat.lt_of_lt_of_le hb h.size) d2 d1, h.mem b o hb h1 h2]
  mle := h.mle.trans k.mle
  domB := fun b hb h1 h2 => by
    obtain ⟨d1, d2⟩ := h.domB b hb h1 h2
    exact k.domB b (Nat.lt_of_lt_of_le hb h.size) d1 d2

/-- Draws, and other worlds of the same memory. -/
theorem WRel.of_heap {G : Glob} {M : Mem} {s : St} {w w' : World} (h : WRel G M s w) (hh : w'.heap = w.heap) : WRel G M s w' where
  box := by rw [hh]; exact h.box
  boxM := h.boxM
  boxT := h.boxT
  tok := by rw [hh]; exact h.tok
  imm := fun b o v e => by
    have := h.imm b o v e
    unfold World.cell? at *
    rw [hh]; exact this
  glob := h.glob

end Go.Pv
/- The operations by value: what each does to slots and state, and which operation of the loaded program each stands for. No condition. -/
namespace Go.Pv

abbrev Slots := Nat → AV
def put (s : Slots) (d : Option Nat) (v : AV) : Slots :=
  match d with
  | none => s
  | some t => fun u => if u = t then v else s u

inductive Arg where
  | t (n : Nat)
  | c (v : AV)
  | g (n : Nat)

def Arg.ev (G : Glob) (s : Slots) : Arg → AV
  | .t n => s n
  | .c v => v
  | .g n => match G n with | some cells => .elt cells | none => .undef

def AV.dat? : AV → Option Dat
  | .d x => some x
  | .full rows => some (.sl rows)
  | .own _ rows _ => some (.sl rows)
  | _ => none
def AV.cells : AV → List AV
  | .agg cs => cs
  | .undef => []
  | .tup _ => []
  | v => [v]
/-- One cell. -/
def AV.sc : AV → Bool
  | .agg _ => false
  | .undef => false
  | .tup _ => false
  | _ => true
def AV.datCells (v : AV) : Option (List Dat) := v.cells.mapM AV.dat?
/-- Without the right to append in place. -/
def AV.weak1 : AV → AV
  | .full rows => .d (.sl rows)
  | .own _ rows _ => .d (.sl rows)
  | v => v
def AV.weakA : AV → AV
  | .full rows => .d (.sl rows)
  | .own _ rows _ => .d (.sl rows)
  | .agg cells => .agg (cells.map AV.weak1)
  | v => v
def AV.weak : AV → AV
  | .tup vs => .tup (vs.map AV.weakA)
  | .full rows => .d (.sl rows)
  | .own _ rows _ => .d (.sl rows)
  | .agg cells => .agg (cells.map AV.weak1)
  | v => v
def AV.rows? : AV → Option (List (List Dat))
  | .full rows => some rows
  | .own _ rows _ => some rows
  | .d (.sl rows) => some rows
  | _ => none
def b2 (b : Bool) : AV := .d (.bool b)
def i64 (n : Int) : AV := .d (.int .i64 n)

inductive POp where
  | mov (x : Arg)
  | pick (c a b : Arg)
  | bin (op : BinOp) (x y : Arg)
  | isNil (kd : Nat) (neg : Bool) (x : Arg)
  | isNilS (neg : Bool) (x : Arg)
  | eqB (neg : Bool) (x y : Arg)
  | eqAgg (neg : Bool) (ks : List Nat) (x y : Arg)
  | not (x : Arg)
  | neg (x : Arg)
  | cpl (x : Arg)
  | cvt (k : IntKind) (x : Arg)
  | cvtF (k : FloatKind) (x : Arg)
  | cvtI (k : IntKind) (x : Arg)
  | nat (n : Nat) (x : Arg)
  | same (x : Arg)
  | strOf (x : Arg)
  | bytesOf (x : Arg)
  | nilchk (x : Arg)
  | faddr (off : Nat) (x : Arg)
  | field (ag : Bool) (off sz : Nat) (x : Arg)
  | iaddr (sz : Nat) (x i : Arg)
  | iaddrA (len sz : Nat) (x i : Arg)
  | idxS (x i : Arg)
  | idxA (ag : Bool) (len sz : Nat) (x i : Arg)
  | ext (x : Arg) (n : Nat)
  | len (x : Arg)
  | lenS (x : Arg)
  | minmax (max : Bool) (x : Arg) (rest : List Arg)
  | slc (sz : Nat) (x : Arg) (lo hi : Option Arg)
  | slcA (len sz : Nat) (x : Arg) (lo hi : Option Arg)
  | slcS (x : Arg) (lo hi : Option Arg)
  | bld (zero : List AV) (parts : List (Nat × Nat × Arg))
  | bsl (sz : Nat) (parts : List Arg)
  | mkfn (f : FuncId) (first captured : List Arg)
  | mki (t : TypeId) (x : Arg)
  | load (ag : Bool) (sz : Nat) (x : Arg) (stable : Bool)
  | box (sz : Nat) (x : Arg)
  | alloc (zero : List AV)
  | make (sz : Nat) (bytes : Nat) (zero : List AV) (len cap : Arg)
  | store (sz : Nat) (a v : Arg)
  | storeo (sz : Nat) (a v : Arg)
  | app (sz bytes : Nat) (x y : Arg)
  | appB (sz bytes : Nat) (x y : Arg)
  | appS (x y : Arg)
  | call (f : FuncId) (args : List Arg)
  | callp (f : FuncId) (args : List Arg)
  | callv (x : Arg) (args : List Arg)
  | call0 (f : FuncId) (args : List Arg)
  | callv0 (x : Arg) (args : List Arg)
  | callvp (x : Arg) (args : List Arg)
  | copy (sz : Nat) (x y : Arg)
  | clr (zc : List AV) (x : Arg)
  | tassert (t : TypeId) (zero : AV) (x : Arg)
  | callE (f : FuncId) (args : List Arg)
  | mkmap (kd : KK)
  | mins (kd : KK) (m k v : Arg)
  | mget (kd : KK) (zero : AV) (ok : Bool) (m k : Arg)

def intBin (op : BinOp) (k : IntKind) (a b : Int) : Option AV :=
  match op with
  | .add => some (.d (.int k (k.wrap (a + b))))
  | .sub => some (.d (.int k (k.wrap (a - b))))
  | .mul => some (.d (.int k (k.wrap (a * b))))
  | .quo => if b = 0 then none else some (.d (.int k (k.wrap (a.tdiv b))))
  | .rem => if b = 0 then none else some (.d (.int k (a.tmod b)))
  | .and => some (.d (.int k (k.wrap (BitVec.ofInt k.bits a &&& BitVec.ofInt k.bits b).toNat)))
  | .or => some (.d (.int k (k.wrap (BitVec.ofInt k.bits a ||| BitVec.ofInt k.bits b).toNat)))
  | .xor => some (.d (.int k (k.wrap (BitVec.ofInt k.bits a ^^^ BitVec.ofInt k.bits b).toNat)))
  | .andNot => some (.d (.int k (k.wrap (BitVec.ofInt k.bits a &&& ~~~(BitVec.ofInt k.bits b)).toNat)))
  | .eql => some (b2 (a == b))
  | .neq => some (b2 (a != b))
  | .lss => some (b2 (decide (a < b)))
  | .leq => some (b2 (decide (a ≤ b)))
  | .gtr => some (b2 (decide (a > b)))
  | .geq => some (b2 (decide (a ≥ b)))
  | _ => none
def shBin (op : BinOp) (k : IntKind) (a y : Int) : Option AV :=
  if y < 0 then none else
  match op with
  | .shl => some (.d (.int k (k.wrap (a * 2 ^ (min y.toNat k.bits)))))
  | .shr => some (.d (.int k (a.fdiv (2 ^ (min y.toNat k.bits)))))
  | _ => none
def strBin (op : BinOp) (x y : ByteArray) : Option AV :=
  let eq := x.toList == y.toList
  let lt := Op.bytesLess x.toList y.toList
  match op with
  | .add => if x.size + y.size ≤ 9223372036854775807 then some (.d (.str (x ++ y))) else none
  | .eql => some (b2 eq)
  | .neq => some (b2 (!eq))
  | .lss => some (b2 lt)
  | .leq => some (b2 (lt || eq))
  | .gtr => some (b2 (!(lt || eq)))
  | .geq => some (b2 (!lt))
  | _ => none
def fltBin (op : BinOp) (k : FloatKind) (x y : Nat) : Option AV :=
  match op with
  | .add => (k.format.add x y).map fun r => .d (.flt k r)
  | .sub => (k.format.sub x y).map fun r => .d (.flt k r)
  | .mul => (k.format.mul x y).map fun r => .d (.flt k r)
  | .quo => (k.format.div x y).map fun r => .d (.flt k r)
  | .eql => some (b2 (k.format.order x y == some .eq))
  | .neq => some (b2 (k.format.order x y != some .eq))
  | .lss => some (b2 (k.format.order x y == some .lt))
  | .leq => some (b2 (k.format.order x y == some .lt || k.format.order x y == some .eq))
  | .gtr => some (b2 (k.format.order x y == some .gt))
  | .geq => some (b2 (k.format.order x y == some .gt || k.format.order x y == some .eq))
  | _ => none
def binEv (op : BinOp) (x y : AV) : Option AV :=
  match x, y with
  | .d (.int k a), .d (.int k' b) => if op = .shl ∨ op = .shr then shBin op k a b else if k = k' then intBin op k a b else none
  | .d (.str a), .d (.str b) => strBin op a b
  | .d (.flt k a), .d (.flt k' b) => if k = k' then fltBin op k a b else none
  | _, _ => none
/-- Is it nil? 0: a pointer, 1: a slice, 2: a function, 3: an interface value. (Of an empty slice that came in nobody knows.) -/
def nilEv : Nat → AV → Option Bool
  | 0, .d .nilp => some true
  | 0, .d (.ptr _ _) => some false
  | 0, .elt _ => some false
  | 1, .full (_ :: _) => some false
  | 1, .d (.sl (_ :: _)) => some false
  | 1, .own _ _ _ => some false
  | 1, .bsl _ _ _ _ => some false
  | 2, .d .nilf => some true
  | 2, .d (.fn _ _ _) => some false
  | 3, .d .nili => some true
  | 3, .d (.ifc _ _) => some false
  | 3, .d (.ifa _ _) => some false
  | _, _ => none
/-- Equal, cell by cell: 0 a bool, 1 a number, 2 a text. -/
def eqCells : List Nat → List AV → List AV → Option Bool
  | [], [], [] => some true
  | q :: qs, x :: xs, y :: ys =>
    match q, x, y with
    | 1, .d (.int k a), .d (.int k' b) => if k = k' then (eqCells qs xs ys).map fun r => a == b && r else none
    | 0, .d (.bool a), .d (.bool b) => (eqCells qs xs ys).map fun r => a == b && r
    | 2, .d (.str a), .d (.str b) => (eqCells qs xs ys).map fun r => a.toList == b.toList && r
    | _, _, _ => none
  | _, _, _ => none

def ldv (ag : Bool) (sz : Nat) (cs : List AV) : Option AV :=
  if cs.length < sz then none else if ag then some (.agg (cs.take sz)) else if sz = 1 then cs.head? else none

def fillCells : List AV → List (Nat × Nat × AV) → Option (List AV)
  | cells, [] => some cells
  | cells, (off, sz, v) :: rest =>
    if v.cells.length = sz ∧ off + sz ≤ cells.length then fillCells (cells.take off ++ v.cells ++ cells.drop (off + sz)) rest else none

def bnd (x : AV) (y : Nat) : Option Nat :=
  match x with
  | .d (.int _ n) => if 0 ≤ n ∧ n ≤ (y : Int) then some n.toNat else none
  | _ => none
/-- The bounds of a slice expression: low, high. -/
def bnds (len cap : Nat) (lo hi : Option AV) : Option (Nat × Nat) :=
  (match hi with | some v => bnd v cap | none => some len).bind fun h =>
    (match lo with | some v => bnd v h | none => some 0).bind fun l => some (l, h)

def strOfRows : List (List Dat) → Option (List UInt8)
  | [] => some []
  | [.int .u8 n] :: rest => (strOfRows rest).map fun l => UInt8.ofNat n.toNat :: l
  | _ :: _ => none
def rowsOfStr (s : ByteArray) : List (List Dat) := s.data.toList.map fun b => [.int .u8 b.toNat]

def mm2 (mx : Bool) : AV → AV → Option AV
  | .d (.int k x), .d (.int _ y) => some (.d (.int k (if mx then (if y > x then y else x) else (if y < x then y else x))))
  | _, _ => none

/-- The operations that look at slots alone. -/
def ev (G : Glob) (s : Slots) : POp → Option AV
  | .mov x => some (x.ev G s)
  | .pick c a b => match c.ev G s with | .d (.bool t) => some (if t = true then a.ev G s else b.ev G s) | _ => none
  | .bin op x y => binEv op (x.ev G s) (y.ev G s)
  | .isNil kd neg x => (nilEv kd (x.ev G s)).map fun b => b2 (if neg then !b else b)
  | .eqB neg x y => match x.ev G s, y.ev G s with
    | .d (.bool a), .d (.bool b) => some (b2 (if neg then !(a == b) else a == b))
    | _, _ => none
  | .eqAgg neg fs x y => match x.ev G s, y.ev G s with
    | .agg xs, .agg ys => (eqCells fs xs ys).map fun b => b2 (if neg then !b else b)
    | _, _ => none
  | .not x => match x.ev G s with | .d (.bool b) => some (b2 (!b)) | _ => none
  | .neg x => match x.ev G s with
    | .d (.int k n) => some (.d (.int k (k.wrap (0 - n))))
    | .d (.flt k b) => some (.d (.flt k (Op.negFloat k b)))
    | _ => none
  | .cpl x => match x.ev G s with | .d (.int k n) => some (.d (.int k (k.wrap (BitVec.ofInt k.bits (if k.signed then -1 else k.max) ^^^ BitVec.ofInt k.bits n).toNat))) | _ => none
  | .cvt k x => match x.ev G s with | .d (.int _ n) => some (.d (.int k (k.wrap n))) | _ => none
  | .cvtF k x => match x.ev G s with | .d (.int _ n) => some (.d (.flt k (k.nearest n))) | _ => none
  | .cvtI k x => match x.ev G s with
    | .d (.flt .f64 b) => match (FloatKind.f64.decode b).toInt .zero with | some n => if k.min ≤ n ∧ n ≤ k.max then some (.d (.int k n)) else none | none => none
    | _ => none
  | .nat 0 x => match x.ev G s with | .d (.flt .f64 b) => some (.d (.int .u64 b)) | _ => none
  | .nat 1 x => match x.ev G s with | .d (.int .u64 n) => some (.d (.flt .f64 n.toNat)) | _ => none
  | .same x => match x.ev G s with | .d (.str t) => some (.d (.str t)) | _ => none
  | .strOf x => ((x.ev G s).rows?.bind strOfRows).map fun l => .d (.str ⟨l.toArray⟩)
  | .nilchk x => match x.ev G s with
    | .d (.ptr b o) => some (.d (.ptr b o))
    | .elt cells => some (.elt cells)
    | .d (.fn f a c) => some (.d (.fn f a c))
    | _ => none
  | .faddr off x => match x.ev G s with
    | .d (.ptr b o) => some (.d (.ptr b (o + off)))
    | .elt cells => some (.elt (cells.drop off))
    | _ => none
  | .field ag off sz x => match x.ev G s with | .agg cells => ldv ag sz (cells.drop off) | _ => none
  | .iaddr sz x i => match i.ev G s with
    | .d (.int _ n) =>
      match x.ev G s with
      | .bsl b off len _ => if 0 ≤ n ∧ n < (len : Int) then some (.d (.ptr b (off + n.toNat * sz))) else none
      | v => v.rows?.bind fun rows => if 0 ≤ n ∧ n < (rows.length : Int) ∧ (rows.getD n.toNat []).length = sz then some (.elt (rows.getD n.toNat [])) else none
    | _ => none
  | .iaddrA len sz x i => match i.ev G s with
    | .d (.int _ n) => if 0 ≤ n ∧ n < (len : Int) then
        match x.ev G s with
        | .d (.ptr b o) => some (.d (.ptr b (o + n.toNat * sz)))
        | .elt cells => some (.elt (cells.drop (n.toNat * sz)))
        | _ => none
      else none
    | _ => none
  | .idxS x i => match x.ev G s, i.ev G s with
    | .d (.str t), .d (.int _ n) => if 0 ≤ n then (t[n.toNat]?).map fun b => .d (.int .u8 b.toNat) else none
    | _, _ => none
  | .idxA ag len sz x i => match x.ev G s, i.ev G s with
    | .agg cells, .d (.int _ n) => if 0 ≤ n ∧ n < (len : Int) then ldv ag sz (cells.drop (n.toNat * sz)) else none
    | _, _ => none
  | .ext x n => match x.ev G s with | .tup vs => vs[n]? | _ => none
  | .len x => match x.ev G s with
    | .bsl _ _ len _ => some (i64 len)
    | v => v.rows?.map fun rows => i64 rows.length
  | .lenS x => match x.ev G s with | .d (.str t) => some (i64 t.size) | _ => none
  | .minmax mx x rest => (rest.map fun (p : Arg) => p.ev G s).foldlM (mm2 mx) (x.ev G s)
  | .slc sz x lo hi => match x.ev G s with
    | .bsl b off len cap => (bnds len cap (lo.map fun (p : Arg) => p.ev G s) (hi.map fun (p : Arg) => p.ev G s)).map fun p => .bsl b (if cap = p.1 then off else off + p.1 * sz) (p.2 - p.1) (cap - p.1)
    | v => v.rows?.bind fun rows => (bnds rows.length rows.length (lo.map fun (p : Arg) => p.ev G s) (hi.map fun (p : Arg) => p.ev G s)).bind fun p =>
        if p.1 = 0 ∧ p.2 = rows.length then some v else if p.1 = 0 ∨ (rows.all fun r => r.length == sz) = true then some (.d (.sl ((rows.take p.2).drop p.1))) else none
  | .slcA len sz x lo hi => match x.ev G s with
    | .d (.ptr b o) => (bnds len len (lo.map fun (p : Arg) => p.ev G s) (hi.map fun (p : Arg) => p.ev G s)).map fun p => .bsl b (if len = p.1 then o else o + p.1 * sz) (p.2 - p.1) (len - p.1)
    | .elt cells => if sz = 1 ∧ len ≤ cells.length then (bnds len len (lo.map fun (p : Arg) => p.ev G s) (hi.map fun (p : Arg) => p.ev G s)).map fun p => .d (.sl (((cells.take p.2).drop p.1).map fun c => [c])) else none
    | _ => none
  | .slcS x lo hi => match x.ev G s with
    | .d (.str t) => (bnds t.size t.size (lo.map fun (p : Arg) => p.ev G s) (hi.map fun (p : Arg) => p.ev G s)).map fun p => .d (.str (t.extract p.1 p.2))
    | _ => none
  | .bld zero parts => (fillCells zero (parts.map fun p => (p.1, p.2.1, p.2.2.ev G s))).map .agg
  | .bsl sz parts => ((parts.map fun (p : Arg) => p.ev G s).mapM AV.datCells).bind fun rows => if rows.all (·.length == sz) then some (.full rows) else none
  | .mkfn f first captured => ((first.map fun (p : Arg) => p.ev G s).mapM AV.dat?).bind fun fs => ((captured.map fun (p : Arg) => p.ev G s).mapM AV.dat?).map fun cs => .d (.fn f fs cs)
  | .mki t x => match x.ev G s with
    | .agg cells => ((AV.agg cells).datCells).map fun cs => .d (.ifa t cs)
    | v => v.dat?.map fun y => .d (.ifc t y)
  | .bytesOf x => match x.ev G s with | .d (.str t) => some (.d (.sl (rowsOfStr t))) | _ => none
  | .tassert t zero x => match x.ev G s with
    | .d (.ifa u cells) => some (if u = t then .tup [.agg (cells.map .d), b2 true] else .tup [zero, b2 false])
    | .d (.ifc u y) => some (if u = t then .tup [.d y, b2 true] else .tup [zero, b2 false])
    | .d .nili => some (.tup [zero, b2 false])
    | _ => none
  | _ => none

/-- State, what was read for good in this region, the states ahead of writes in this region. -/
structure Mx where
  st : St
  watch : Nat → List AV → Prop
  hist : St → Prop

def Mx.holds (m : Mx) (st' : St) : Prop := ∀ b cells, m.watch b cells → st'.box b = some cells
def Mx.see (m : Mx) (b : Nat) (cells : List AV) : Mx := { m with watch := fun c l => m.watch c l ∨ (c = b ∧ l = cells) }
def Mx.past (m : Mx) (st' : St) : Mx := ⟨st', m.watch, fun h => m.hist h ∨ h = m.st⟩
def Mx.setSt (m : Mx) (st' : St) : Mx := ⟨st', m.watch, m.hist⟩

abbrev CallsP := FuncId → List AV → St → (AV → St → Prop) → Prop

/-- A step that stands behind all that looks. -/
structure Stp where
  go : Mx → (AV → Mx → Prop) → Prop
  mono : ∀ (m : Mx) (Q Q' : AV → Mx → Prop), (∀ v m, Q v m → Q' v m) → go m Q → go m Q'
  const : ∀ (m : Mx) (c : Prop), go m (fun _ _ => c) → c

/-- An operation, its operands read: what it does to the state. -/
inductive NF where
  | n (e : Option AV)
  | r (b o : Nat) (ag : Bool) (sz : Nat)
  | s (b o : Nat) (ag : Bool) (sz : Nat)
  | f (c : Bool) (cells : List AV) (v : Nat → AV)
  | w (b o sz : Nat) (cs : List AV)
  | a (sz bytes : Nat) (x : AV) (news : List (List Dat))
  | wo (b o sz : Nat) (cs : List AV)
  | ab (sz bytes : Nat) (x : AV) (news : List (List Dat))
  | ci (f : FuncId) (as : List AV)
  | cp (f : FuncId) (as : List AV)
  | c0 (f : FuncId) (as : List AV)
  | any
  | bad
  | x (s : Stp)
  | ce (f : FuncId) (as : List AV)

/-- A call that may not return: nothing changes places with it. -/
def NF.isZ : NF → Bool
  | .ce .. => true
  | _ => false

/-- The cells of what is copied. -/
def srcCells (st : St) (k : Nat) : AV → Option (List AV)
  | .bsl b o _ _ => (st.box b).map fun l => (l.drop o).take k
  | v => v.rows?.map fun rows => (rows.flatten.map .d).take k
def AV.slen : AV → Option Nat
  | .bsl _ _ n _ => some n
  | v => v.rows?.map (·.length)
def Mx.new (st : St) : Mx := ⟨st, fun _ _ => False, fun _ => False⟩
/-- copy: what stands there is read ahead of all that is written. -/
def copyStp (sz b o n : Nat) (y : AV) : Stp where
  go m Q := ∃ cells n' cs, m.st.box b = some cells ∧ y.slen = some n' ∧ srcCells m.st (min n' n * sz) y = some cs ∧ (cs.length = min n' n * sz ∧ cs.all AV.sc = true) ∧ o + min n' n * sz ≤ cells.length ∧
    (∀ r, y.rows? = some r → ∀ l ∈ r, l.length = sz) ∧ Q (i64 (min n' n : Nat)) (Mx.new (m.st.setBox b (cells.take o ++ cs ++ cells.drop (o + min n' n * sz))))
  mono := fun _ _ _ h ⟨cells, n', cs, h1, h2, h3, h4, h5, h6, h7⟩ => ⟨cells, n', cs, h1, h2, h3, h4, h5, h6, h _ _ h7⟩
  const := fun _ _ ⟨_, _, _, _, _, _, _, _, _, h7⟩ => h7

/-- clear: so many elements are nought. -/
def clrStp (zc : List AV) (b o n : Nat) : Stp where
  go m Q := ∃ cells, m.st.box b = some cells ∧ n ≠ 0 ∧ o + n * zc.length ≤ cells.length ∧ Q (.tup []) (Mx.new (m.st.setBox b (cells.take o ++ (List.replicate n zc).flatten ++ cells.drop (o + n * zc.length))))
  mono := fun _ _ _ h ⟨cells, h1, h2, h3, h4⟩ => ⟨cells, h1, h2, h3, h _ _ h4⟩
  const := fun _ _ ⟨_, _, _, _, h4⟩ => h4

/-- Is it a key of this kind? -/
def keyIs : KK → AV → Bool
  | .int k, .d (.int k' _) => decide (k = k')
  | .str, .d (.str _) => true
  | .bool, .d (.bool _) => true
  | _, _ => false
/-- Two keys, held against one another. -/
def keyEq : AV → AV → Bool
  | .d (.int _ a), .d (.int _ b) => a == b
  | .d (.str a), .d (.str b) => a.toList == b.toList
  | .d (.bool a), .d (.bool b) => a == b
  | _, _ => false
/-- Where a key stands; what stands there; an element is laid. -/
def mfind (es : List (AV × AV)) (k : AV) : Option Nat := es.findIdx? fun e => keyEq k e.1
def mat (es : List (AV × AV)) (k : AV) : Option AV := (mfind es k).bind fun j => (es[j]?).map (·.2)
def mput (es : List (AV × AV)) (k v : AV) : List (AV × AV) := match mfind es k with
  | some j => es.set j (k, v)
  | none => es ++ [(k, v)]
def mkmapStp (kd : KK) : Stp where
  go m Q := ∀ b, m.st.fresh b → Q (.d (.mapr b)) (Mx.new (m.st.setTok b ⟨0, 0, 0, some ⟨kd, []⟩⟩))
  mono := fun _ _ _ h k b hb => h _ _ (k b hb)
  const := fun m _ h => m.st.has_fresh.elim fun b hb => h b hb
def minsStp (kd : KK) (b : Nat) (k v : AV) : Stp where
  go m Q := ∃ es, m.st.tok b = some ⟨0, 0, 0, some ⟨kd, es⟩⟩ ∧ keyIs kd k = true ∧ Q .undef (Mx.new (m.st.setTok b ⟨0, 0, 0, some ⟨kd, mput es k v⟩⟩))
  mono := fun _ _ _ h ⟨es, h1, h2, h3⟩ => ⟨es, h1, h2, h _ _ h3⟩
  const := fun _ _ ⟨_, _, _, h3⟩ => h3
def mgetStp (kd : KK) (b : Nat) (k zero : AV) (ok : Bool) : Stp where
  go m Q := ∃ es, m.st.tok b = some ⟨0, 0, 0, some ⟨kd, es⟩⟩ ∧ keyIs kd k = true ∧ Q (match mat es k with
    | some v => if ok = true then .tup [v, b2 true] else v
    | none => if ok = true then .tup [zero, b2 false] else zero) m
  mono := fun _ _ _ h ⟨es, h1, h2, h3⟩ => ⟨es, h1, h2, h _ _ h3⟩
  const := fun _ _ ⟨_, _, _, h3⟩ => h3

/-- append to nothing: what is appended is a variable's row. -/
def appStp (sz bytes : Nat) (x : AV) (b off n : Nat) : Stp where
  go m Q := ∃ (cells : List AV) (news : List (List Dat)), m.st.box b = some cells ∧ (cells.drop off).take (n * sz) = news.flatten.map .d ∧ news.length = n ∧ (∀ r ∈ news, r.length = sz) ∧ x = .full [] ∧ n * bytes ≤ 140737488355328 ∧ n ≠ 0 ∧
    ∀ b' cap, m.st.fresh b' → n ≤ cap → Q (.bsl b' 0 n cap) (m.setSt (m.st.setBox b' (news.flatten.map .d ++ List.replicate ((cap - n) * sz) .undef)))
  mono := fun _ _ _ h ⟨cells, news, h1, h2, h3, h4, h5, h6, h7, h8⟩ => ⟨cells, news, h1, h2, h3, h4, h5, h6, h7, fun b cap hb hc => h _ _ (h8 b cap hb hc)⟩
  const := fun m _ ⟨_, _, _, _, _, _, _, _, _, h8⟩ => m.st.has_fresh.elim fun b hb => h8 b _ hb (Nat.le_refl _)

def ptrAt (b : Nat) : AV := .d (.ptr b 0)

def nf (G : Glob) (s : Slots) : POp → NF
  | .load ag sz x stable => match x.ev G s with
    | .elt cells => .n (ldv ag sz (cells.map .d))
    | .d (.ptr b o) => if stable = true then .s b o ag sz else .r b o ag sz
    | _ => .bad
  | .box sz x => .f ((x.ev G s).cells.length == sz) (x.ev G s).cells ptrAt
  | .alloc zero => .f true zero ptrAt
  | .make _ bytes zero len cap => match len.ev G s, cap.ev G s with
    | .d (.int .i64 l), .d (.int .i64 c) => .f (decide (0 ≤ l ∧ l ≤ c ∧ c * bytes ≤ 281474976710656)) (List.replicate c.toNat zero).flatten (fun b => .bsl b 0 l.toNat c.toNat)
    | _, _ => .bad
  | .store sz a v => match a.ev G s with
    | .d (.ptr b o) => .w b o sz (v.ev G s).cells
    | _ => .bad
  | .storeo sz a v => match a.ev G s with
    | .d (.ptr b o) => .wo b o sz (v.ev G s).cells
    | _ => .bad
  | .app sz bytes x y => match (y.ev G s).rows? with
    | some news => .a sz bytes (x.ev G s) news
    | none => .bad
  | .appB sz bytes x y => match (y.ev G s).rows? with
    | some news => .ab sz bytes (x.ev G s) news
    | none => match y.ev G s with
      | .bsl b off n _ => .x (appStp sz bytes (x.ev G s) b off n)
      | _ => .bad
  | .appS x y => match y.ev G s with
    | .d (.str t) => .a 1 1 (x.ev G s) (rowsOfStr t)
    | _ => .bad
  | .call f args => .ci f ((args.map fun (p : Arg) => p.ev G s).map AV.weak)
  | .callp f args => .cp f ((args.map fun (p : Arg) => p.ev G s).map AV.weak)
  | .callv x args => match x.ev G s with
    | .d (.fn f first captured) => .ci f (first.map .d ++ ((args.map fun (p : Arg) => p.ev G s).map AV.weak) ++ captured.map .d)
    | _ => .bad
  | .callvp x args => match x.ev G s with
    | .d (.fn f first captured) => .cp f (first.map .d ++ ((args.map fun (p : Arg) => p.ev G s).map AV.weak) ++ captured.map .d)
    | _ => .bad
  | .callE f args => .ce f ((args.map fun (p : Arg) => p.ev G s).map AV.weak)
  | .call0 f args => .c0 f ((args.map fun (p : Arg) => p.ev G s).map AV.weak)
  | .callv0 x args => match x.ev G s with
    | .d (.fn f first captured) => .c0 f (first.map .d ++ ((args.map fun (p : Arg) => p.ev G s).map AV.weak) ++ captured.map .d)
    | _ => .bad
  | .isNilS neg x => match x.ev G s with
    | .d (.sl []) => .any
    | v => .n ((nilEv 1 v).map fun b => b2 (if neg then !b else b))
  | .copy sz x y => match x.ev G s with
    | .bsl b o n _ => .x (copyStp sz b o n (y.ev G s))
    | _ => .bad
  | .clr zc x => match x.ev G s with
    | .bsl b o n _ => .x (clrStp zc b o n)
    | _ => .bad
  | .mkmap kd => .x (mkmapStp kd)
  | .mins kd x k v => match x.ev G s with
    | .d (.mapr b) => .x (minsStp kd b (k.ev G s) (v.ev G s).weakA)
    | _ => .bad
  | .mget kd zero ok x k => match x.ev G s with
    | .d (.mapr b) => .x (mgetStp kd b (k.ev G s) zero ok)
    | .d .nilm => .n (if keyIs kd (k.ev G s) = true then some (if ok = true then .tup [zero, b2 false] else zero) else none)
    | _ => .bad
  | o => .n (ev G s o)

def NF.step (C : CallsP) (x : NF) (m : Mx) (Q : AV → Mx → Prop) : Prop :=
  match x with
  | .n e => ∃ v, e = some v ∧ Q v m
  | .r b o ag sz => ∃ cells, m.st.box b = some cells ∧ ∃ v, ldv ag sz (cells.drop o) = some v ∧ Q v m
  | .s b o ag sz => ∃ cells, m.st.box b = some cells ∧ ∃ v, ldv ag sz (cells.drop o) = some v ∧ (∀ h, m.hist h → h.box b = some cells) ∧ Q v (m.see b cells)
  | .f c cells v => c = true ∧ ∀ b, m.st.fresh b → Q (v b) (m.setSt (m.st.setBox b cells))
  | .w b o sz cs => ∃ cells, m.st.box b = some cells ∧ (cs.length = sz ∧ cs.all AV.sc = true) ∧ o + sz ≤ cells.length ∧
        m.holds (m.st.setBox b (cells.take o ++ cs ++ cells.drop (o + sz))) ∧ Q .undef (m.past (m.st.setBox b (cells.take o ++ cs ++ cells.drop (o + sz))))
  | .wo b o sz cs => ∃ cells, m.st.box b = some cells ∧ (cs.length = sz ∧ cs.all AV.sc = true) ∧ o + sz ≤ cells.length ∧ Q .undef ⟨m.st.setBox b (cells.take o ++ cs ++ cells.drop (o + sz)), fun _ _ => False, fun _ => False⟩
  | .ab sz bytes x news => (∀ r ∈ news, r.length = sz) ∧
      match x with
      | .full rows => (∀ r ∈ rows, r.length = sz) ∧ (rows.length + news.length) * bytes ≤ 140737488355328 ∧
          if news = [] then Q (.full rows) m else ∀ b cap, m.st.fresh b → rows.length + news.length ≤ cap →
            Q (.bsl b 0 (rows.length + news.length) cap) (m.setSt (m.st.setBox b ((rows ++ news).flatten.map .d ++ List.replicate ((cap - (rows.length + news.length)) * sz) .undef)))
      | .bsl b off k cap => off = 0 ∧ k ≤ cap ∧ ∃ cells, m.st.box b = some cells ∧ cells.length = cap * sz ∧ (k + news.length) * bytes ≤ 140737488355328 ∧
          if news = [] then Q (.bsl b off k cap) m else
          if k + news.length ≤ cap then Q (.bsl b off (k + news.length) cap) (Mx.new (m.st.setBox b (cells.take (k * sz) ++ news.flatten.map .d ++ cells.drop (k * sz + news.length * sz))))
          else ∀ b' cap', m.st.fresh b' → k + news.length ≤ cap' →
            Q (.bsl b' 0 (k + news.length) cap') (m.setSt (m.st.setBox b' (cells.take (k * sz) ++ news.flatten.map .d ++ List.replicate ((cap' - (k + news.length)) * sz) .undef)))
      | _ => False
  | .a sz bytes x news => (∀ r ∈ news, r.length = sz) ∧
      match x with
      | .full rows => (∀ r ∈ rows, r.length = sz) ∧ (rows.length + news.length) * bytes ≤ 140737488355328 ∧
          if news = [] then Q (.full rows) m else ∀ b cap, m.st.fresh b → Q (.own b (rows ++ news) cap) (m.setSt (m.st.setTok b ⟨rows.length + news.length, cap, sz, none⟩))
      | .own b rows cap => m.st.tok b = some ⟨rows.length, cap, sz, none⟩ ∧ (∀ r ∈ rows, r.length = sz) ∧ (rows.length + news.length) * bytes ≤ 140737488355328 ∧
          (Q (.own b (rows ++ news) cap) (m.setSt (m.st.setTok b ⟨rows.length + news.length, cap, sz, none⟩)) ∧
           ∀ b' cap', m.st.fresh b' → Q (.own b' (rows ++ news) cap') (m.setSt ((m.st.dropTok b).setTok b' ⟨rows.length + news.length, cap', sz, none⟩)))
      | _ => False
  | .ci g as => ∃ R : AV → St → Prop, C g as m.st R ∧ (∃ r st', R r st') ∧ ∀ r st', R r st' → m.holds st' ∧ Q r (m.past st')
  | .cp g as => ∃ R : AV → Prop, C g as m.st (fun r st' => st' = m.st ∧ R r) ∧ (∃ r, R r) ∧ ∀ r, R r → Q r m
  | .c0 g as => ∃ R : AV → St → Prop, C g as m.st R ∧ (∀ L : List Nat, (∀ b ∈ L, m.st.fresh b) → ∃ r st', R r st' ∧ ∀ b ∈ L, st'.fresh b) ∧ ∀ r st', R r st' → Q r (m.setSt st')
  | .any => ∀ b : Bool, Q (b2 b) m
  | .bad => False
  | .x stp => stp.go m Q
  | .ce g as => ∃ R : AV → St → Prop, C g as m.st R ∧ ∀ r st', R r st' → m.holds st' ∧ Q r (m.past st')

/-- One operation: what may come of it. -/
def ostep (G : Glob) (C : CallsP) (s : Slots) (o : POp) (m : Mx) (Q : AV → Mx → Prop) : Prop := (nf G s o).step C m Q

structure POper where
  dst : Option Nat
  op : POp
  guard : Option (Nat × Bool)

/-- Is the operation wanted? 'none': nobody knows. -/
def wants (s : Slots) (g : Option (Nat × Bool)) : Option Bool :=
  match g with
  | none => some true
  | some (t, b) => match s t with | .d (.bool c) => some (c == b) | .tup [] => some false | _ => none

structure X where
  sl : Slots
  m : Mx

def pstep (G : Glob) (C : CallsP) (o : POper) (K : X → Prop) (x : X) : Prop :=
  match wants x.sl o.guard with
  | some true => ostep G C x.sl o.op x.m fun v m => K ⟨put x.sl o.dst v, m⟩
  | some false => K ⟨put x.sl o.dst (.tup []), x.m⟩
  | none => False
def pops (G : Glob) (C : CallsP) : List POper → (X → Prop) → X → Prop
  | [], K, x => K x
  | o :: rest, K, x => pstep G C o (pops G C rest K) x

theorem NF.step_mono {C : CallsP} {x : NF} {m : Mx} {Q Q' : AV → Mx → Prop} (h : ∀ v m, Q v m → Q' v m) (hh : x.step C m Q) : x.step C m Q' := by
  cases x with
  | c0 g as => obtain ⟨R, k1, k2, k⟩ := hh; exact ⟨R, k1, k2, fun r st' hr => h _ _ (k r st' hr)⟩
  | any => exact fun b => h _ _ (hh b)
  | x s => exact s.mono m _ _ h hh
  | ce g as => obtain ⟨R, k1, k⟩ := hh; exact ⟨R, k1, fun r st' hr => ⟨(k r st' hr).1, h _ _ (k r st' hr).2⟩⟩
  | n e => obtain ⟨v, e, k⟩ := hh; exact ⟨v, e, h _ _ k⟩
  | r b o ag sz => obtain ⟨c, e, v, e2, k⟩ := hh; exact ⟨c, e, v, e2, h _ _ k⟩
  | s b o ag sz => obtain ⟨c, e, v, e2, e3, k⟩ := hh; exact ⟨c, e, v, e2, e3, h _ _ k⟩
  | f c cells v => exact ⟨hh.1, fun b hb => h _ _ (hh.2 b hb)⟩
  | w b o sz cs => obtain ⟨c, e, e2, e3, e4, k⟩ := hh; exact ⟨c, e, e2, e3, e4, h _ _ k⟩
  | wo b o sz cs => obtain ⟨c, e, e2, e3, k⟩ := hh; exact ⟨c, e, e2, e3, h _ _ k⟩
  | ab sz bytes x news =>
    obtain ⟨hs, k⟩ := hh
    refine ⟨hs, ?_⟩
    revert k
    split
    · rintro ⟨k1, k2, k⟩
      refine ⟨k1, k2, ?_⟩
      split
      · rename_i hn; rw [if_pos hn] at k; exact h _ _ k
      · rename_i hn; rw [if_neg hn] at k; exact fun b cap hb hc => h _ _ (k b cap hb hc)
    · rintro ⟨k0, k1, cells, k2, k3, k4, k⟩
      refine ⟨k0, k1, cells, k2, k3, k4, ?_⟩
      split
      · rename_i hn; rw [if_pos hn] at k; exact h _ _ k
      · rename_i hn; rw [if_neg hn] at k
        split
        · rename_i hc; rw [if_pos hc] at k; exact h _ _ k
        · rename_i hc; rw [if_neg hc] at k; exact fun b cap hb hc => h _ _ (k b cap hb hc)
    · exact id
  | a sz bytes x news =>
    obtain ⟨hs, k⟩ := hh
    refine ⟨hs, ?_⟩
    revert k
    split
    · rintro ⟨k1, k2, k⟩
      refine ⟨k1, k2, ?_⟩
      split
      · rename_i hn; rw [if_pos hn] at k; exact h _ _ k
      · rename_i hn; rw [if_neg hn] at k; exact fun b cap hb => h _ _ (k b cap hb)
    · exact fun ⟨k1, k2, k3, k4, k⟩ => ⟨k1, k2, k3, h _ _ k4, fun b' cap' hb => h _ _ (k b' cap' hb)⟩
    · exact id
  | ci g as => obtain ⟨R, k1, k2, k⟩ := hh; exact ⟨R, k1, k2, fun r st' hr => ⟨(k r st' hr).1, h _ _ (k r st' hr).2⟩⟩
  | cp g as => obtain ⟨R, k1, k2, k⟩ := hh; exact ⟨R, k1, k2, fun r hr => h _ _ (k r hr)⟩
  | bad => exact hh

theorem pstep_mono {G : Glob} {C : CallsP} {o : POper} {K K' : X → Prop} {x : X} (h : ∀ x, K x → K' x) (hh : pstep G C o K x) : pstep G C o K' x := by
  unfold pstep at *
  revert hh
  split
  · exact NF.step_mono fun v m => h _
  · exact h _
  · exact id

/-- Something comes of it. -/
theorem NF.step_const {C : CallsP} {x : NF} (hz : x.isZ = false) {m : Mx} {c : Prop} (hh : x.step C m fun _ _ => c) : c := by
  cases x with
  | c0 g as => obtain ⟨R, k1, k2, k⟩ := hh; obtain ⟨r, st', hr, _⟩ := k2 [] (fun _ h => by cases h); exact k r st' hr
  | any => exact hh true
  | x s => exact s.const m c hh
  | ce g as => cases hz
  | n e => obtain ⟨v, e, k⟩ := hh; exact k
  | r b o ag sz => obtain ⟨c, e, v, e2, k⟩ := hh; exact k
  | s b o ag sz => obtain ⟨c, e, v, e2, e3, k⟩ := hh; exact k
  | f c cells v => obtain ⟨b, hb⟩ := m.st.has_fresh; exact hh.2 b hb
  | w b o sz cs => obtain ⟨c, e, e2, e3, e4, k⟩ := hh; exact k
  | wo b o sz cs => obtain ⟨c, e, e2, e3, k⟩ := hh; exact k
  | ab sz bytes x news =>
    obtain ⟨hs, k⟩ := hh
    obtain ⟨b, hb⟩ := m.st.has_fresh
    revert k
    split
    · rintro ⟨_, _, k⟩
      split at k
      · exact k
      · exact k b _ hb (Nat.le_refl _)
    · rintro ⟨_, _, _, _, _, _, k⟩
      split at k
      · exact k
      · split at k
        · exact k
        · exact k b _ hb (Nat.le_refl _)
    · exact False.elim
  | a sz bytes x news =>
    obtain ⟨hs, k⟩ := hh
    obtain ⟨b, hb⟩ := m.st.has_fresh
    revert k
    split
    · rintro ⟨_, _, k⟩
      split at k
      · exact k
      · exact k b 0 hb
    · exact fun ⟨_, _, _, d, _⟩ => d
    · exact False.elim
  | ci g as => obtain ⟨R, k1, ⟨q, st', hr⟩, k⟩ := hh; exact (k q st' hr).2
  | cp g as => obtain ⟨R, k1, ⟨q, hr⟩, k⟩ := hh; exact k q hr
  | bad => exact hh.elim

end Go.Pv
