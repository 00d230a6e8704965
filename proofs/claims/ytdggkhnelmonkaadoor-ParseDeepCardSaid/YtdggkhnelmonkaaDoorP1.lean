/- By-value reading of the machine's memory: data, abstract values, the abstract state, and how they stand to a world. No condition. -/
import Derived.WalkKit
namespace Go.Pv

/-- Memory that nobody writes any more: block, offset. -/
abbrev Mem := Nat → Nat → Option Value
def MLe (M M' : Mem) : Prop := ∀ b o v, M b o = some v → M' b o = some v
theorem MLe.refl (M : Mem) : MLe M M := fun _ _ _ h => h
theorem MLe.trans {M M' M'' : Mem} (h : MLe M M') (k : MLe M' M'') : MLe M M'' := fun b o v e => k b o v (h b o v e)

/-- Pure data: what a cell holds, slices by value. -/
inductive Dat where
  | int (k : IntKind) (n : Int)
  | bool (b : Bool)
  | flt (k : FloatKind) (bits : Nat)
  | str (s : ByteArray)
  | sl (rows : List (List Dat))
  | ptr (b off : Nat)
  | nilp
  | nilf
  | nili
  | nilm
  | fn (f : FuncId) (first captured : List Dat)
  | ifc (t : TypeId) (x : Dat)
  | ifa (t : TypeId) (cells : List Dat)
  deriving Inhabited

inductive DRel (M : Mem) : Dat → Value → Prop where
  | int (k : IntKind) (n : Int) : DRel M (.int k n) (.int k n)
  | bool (b : Bool) : DRel M (.bool b) (.bool b)
  | flt (k : FloatKind) (b : Nat) : DRel M (.flt k b) (.float k b)
  | str (s : ByteArray) : DRel M (.str s) (.string s)
  | ptr (b off : Nat) : DRel M (.ptr b off) (.pointer (some ⟨b, off, none⟩))
  | nilp : DRel M .nilp (.pointer none)
  | nilf : DRel M .nilf .nilFunc
  | nili : DRel M .nili .nilIface
  | nilm : DRel M .nilm (.map none)
  | slE (a : Option Addr) (cap : Nat) : DRel M (.sl []) (.slice a 0 cap)
  | sl (rows : List (List Dat)) (b off cap size : Nat) (vs : Nat → Value) (hc : rows.length ≤ cap)
      (hs : ∀ r ∈ rows, r.length = size)
      (hm : ∀ o, o < rows.length * size → M b (off + o) = some (vs o))
      (hr : ∀ i j (hi : i < rows.length) (hj : j < rows[i].length), DRel M rows[i][j] (vs (i * size + j))) :
      DRel M (.sl rows) (.slice (some ⟨b, off, none⟩) rows.length cap)
  | fn (f : FuncId) (first captured : List Dat) (fs cs : List Value) (hf : fs.length = first.length) (hc : cs.length = captured.length)
      (h1 : ∀ i (h : i < first.length) (h' : i < fs.length), DRel M first[i] fs[i])
      (h2 : ∀ i (h : i < captured.length) (h' : i < cs.length), DRel M captured[i] cs[i]) :
      DRel M (.fn f first captured) (.func (.func f) fs.toArray cs.toArray)
  | ifc (t : TypeId) (x : Dat) (v : Value) (h : DRel M x v) : DRel M (.ifc t x) (.iface t v)
  | ifa (t : TypeId) (cells : List Dat) (cs : List Value) (hf : cs.length = cells.length)
      (h1 : ∀ i (h : i < cells.length) (h' : i < cs.length), DRel M cells[i] cs[i]) :
      DRel M (.ifa t cells) (.iface t (.agg cs.toArray))

theorem DRel.mono {M M' : Mem} (hm : MLe M M') {x : Dat} {v : Value} (h : DRel M x v) : DRel M' x v := by
  induction h with
  | int k n => exact .int k n
  | bool b => exact .bool b
  | flt k b => exact .flt k b
  | str s => exact .str s
  | ptr b off => exact .ptr b off
  | nilp => exact .nilp
  | nilf => exact .nilf
  | nili => exact .nili
  | nilm => exact .nilm
  | slE a cap => exact .slE a cap
  | sl rows b off cap size vs hc hs hm' hr ih => exact .sl rows b off cap size vs hc hs (fun o ho => hm _ _ _ (hm' o ho)) ih
  | fn f first captured fs cs hf hc h1 h2 ih1 ih2 => exact .fn f first captured fs cs hf hc ih1 ih2
  | ifc t x v h ih => exact .ifc t x v ih
  | ifa t cells cs hf h1 ih1 => exact .ifa t cells cs hf ih1

/-- No aggregate, no tuple: one cell. -/
theorem DRel.oneCell {M : Mem} {x : Dat} {v : Value} (h : DRel M x v) : v.cells = #[v] ∧ (∀ c, v ≠ .agg c) ∧ (∀ c, v ≠ .tuple c) := by
  cases h <;> exact ⟨rfl, fun _ => by simp, fun _ => by simp⟩

/-- What a slot holds. -/
inductive AV where
  | undef
  | d (x : Dat)
  | full (rows : List (List Dat))
  | own (b : Nat) (rows : List (List Dat)) (cap : Nat)
  | bsl (b off len cap : Nat)
  | elt (cells : List Dat)
  | agg (cells : List AV)
  | tup (vs : List AV)
  deriving Inhabited

inductive AVRel (M : Mem) : AV → Value → Prop where
  | undef (v : Value) : AVRel M .undef v
  | d (x : Dat) (v : Value) (h : DRel M x v) : AVRel M (.d x) v
  | fullE : AVRel M (.full []) (.slice none 0 0)
  | full (rows : List (List Dat)) (b size : Nat) (vs : Nat → Value)
      (hs : ∀ r ∈ rows, r.length = size)
      (hm : ∀ o, o < rows.length * size → M b o = some (vs o))
      (hr : ∀ i j (hi : i < rows.length) (hj : j < rows[i].length), DRel M rows[i][j] (vs (i * size + j))) :
      AVRel M (.full rows) (.slice (some ⟨b, 0, none⟩) rows.length rows.length)
  | own (b : Nat) (rows : List (List Dat)) (cap size : Nat) (vs : Nat → Value) (hc : rows.length ≤ cap)
      (hs : ∀ r ∈ rows, r.length = size)
      (hm : ∀ o, o < rows.length * size → M b o = some (vs o))
      (hr : ∀ i j (hi : i < rows.length) (hj : j < rows[i].length), DRel M rows[i][j] (vs (i * size + j))) :
      AVRel M (.own b rows cap) (.slice (some ⟨b, 0, none⟩) rows.length cap)
  | bsl (b off len cap : Nat) (hc : len ≤ cap) : AVRel M (.bsl b off len cap) (.slice (some ⟨b, off, none⟩) len cap)
  | elt (cells : List Dat) (b off : Nat) (vs : Nat → Value)
      (hm : ∀ o, o < cells.length → M b (off + o) = some (vs o))
      (hr : ∀ o (h : o < cells.length), DRel M cells[o] (vs o)) :
      AVRel M (.elt cells) (.pointer (some ⟨b, off, none⟩))
  | agg (cells : List AV) (cs : List Value) (hl : cs.length = cells.length)
      (h1 : ∀ i (h : i < cells.length) (h' : i < cs.length), AVRel M cells[i] cs[i]) : AVRel M (.agg cells) (.agg cs.toArray)
  | tup (vs : List AV) (cs : List Value) (hl : cs.length = vs.length)
      (h1 : ∀ i (h : i < vs.length) (h' : i < cs.length), AVRel M vs[i] cs[i]) : AVRel M (.tup vs) (.tuple cs.toArray)

theorem AVRel.mono {M M' : Mem} (hm : MLe M M') {x : AV} {v : Value} (h : AVRel M x v) : AVRel M' x v := by
  induction h with
  | undef v => exact .undef v
  | d x v h => exact .d x v (h.mono hm)
  | fullE => exact .fullE
  | full rows b size vs hs hm' hr => exact .full rows b size vs hs (fun o ho => hm _ _ _ (hm' o ho)) (fun i j hi hj => (hr i j hi hj).mono hm)
  | own b rows cap size vs hc hs hm' hr => exact .own b rows cap size vs hc hs (fun o ho => hm _ _ _ (hm' o ho)) (fun i j hi hj => (hr i j hi hj).mono hm)
  | bsl b off len cap hc => exact .bsl b off len cap hc
  | elt cells b off vs hm' hr => exact .elt cells b off vs (fun o ho => hm _ _ _ (hm' o ho)) (fun o h => (hr o h).mono hm)
  | agg cells cs hl h1 ih => exact .agg cells cs hl ih
  | tup vs cs hl h1 ih => exact .tup vs cs hl ih

/-- The abstract state: variables in memory (boxes), rows that may grow in place (tokens), package-level variables. -/
structure Tok where
  len : Nat
  cap : Nat
  size : Nat

structure St where
  box : Nat → Option (List AV)
  tok : Nat → Option Tok
  fin : ∃ N, ∀ b, N ≤ b → box b = none ∧ tok b = none

theorem St.ext' {s t : St} (hb : s.box = t.box) (ht : s.tok = t.tok) : s = t := by
  cases s; cases t; simp at hb ht; subst hb; subst ht; rfl

def St.fresh (s : St) (b : Nat) : Prop := s.box b = none ∧ s.tok b = none
theorem St.has_fresh (s : St) : ∃ b, s.fresh b := let ⟨N, h⟩ := s.fin; ⟨N, h N (Nat.le_refl _)⟩
theorem St.has_fresh_ne (s : St) (c : Nat) : ∃ b, b ≠ c ∧ s.fresh b :=
  let ⟨N, h⟩ := s.fin; ⟨max N (c + 1), by omega, h _ (by omega)⟩

def St.setBox (s : St) (b : Nat) (cells : List AV) : St where
  box := fun c => if c = b then some cells else s.box c
  tok := s.tok
  fin := by
    obtain ⟨N, h⟩ := s.fin
    refine ⟨max N (b + 1), fun c hc => ?_⟩
    have := h c (by omega)
    rw [if_neg (by omega)]
    exact this
def St.setTok (s : St) (b : Nat) (t : Tok) : St where
  box := s.box
  tok := fun c => if c = b then some t else s.tok c
  fin := by
    obtain ⟨N, h⟩ := s.fin
    refine ⟨max N (b + 1), fun c hc => ?_⟩
    have := h c (by omega)
    rw [if_neg (by omega)]
    exact this
def St.dropTok (s : St) (b : Nat) : St where
  box := s.box
  tok := fun c => if c = b then none else s.tok c
  fin := by
    obtain ⟨N, h⟩ := s.fin
    refine ⟨N, fun c hc => ?_⟩
    have := h c hc
    split <;> simp [this]
def St.dropBox (s : St) (b : Nat) : St where
  box := fun c => if c = b then none else s.box c
  tok := s.tok
  fin := by
    obtain ⟨N, h⟩ := s.fin
    refine ⟨N, fun c hc => ?_⟩
    have := h c hc
    split <;> simp [this]

@[simp] theorem St.box_setBox (s : St) (b c : Nat) (l : List AV) : (s.setBox b l).box c = if c = b then some l else s.box c := rfl
@[simp] theorem St.tok_setBox (s : St) (b : Nat) (l : List AV) : (s.setBox b l).tok = s.tok := rfl
@[simp] theorem St.box_setTok (s : St) (b : Nat) (t : Tok) : (s.setTok b t).box = s.box := rfl
@[simp] theorem St.tok_setTok (s : St) (b c : Nat) (t : Tok) : (s.setTok b t).tok c = if c = b then some t else s.tok c := rfl
@[simp] theorem St.box_dropTok (s : St) (b : Nat) : (s.dropTok b).box = s.box := rfl
@[simp] theorem St.tok_dropTok (s : St) (b c : Nat) : (s.dropTok b).tok c = if c = b then none else s.tok c := rfl
@[simp] theorem St.box_dropBox (s : St) (b c : Nat) : (s.dropBox b).box c = if c = b then none else s.box c := rfl
@[simp] theorem St.tok_dropBox (s : St) (b : Nat) : (s.dropBox b).tok = s.tok := rfl

/-- The package-level variables that nobody writes: what they hold. -/
abbrev Glob := Nat → Option (List Dat)
/-- How a state stands to a world. -/
structure WRel (G : Glob) (M : Mem) (s : St) (w : World) : Prop where
  box : ∀ b cells, s.box b = some cells → ∃ t cs, w.heap[b]? = some (.cells cs t (0, 0)) ∧ cs.size = cells.length ∧
    ∀ i (h : i < cells.length) (h' : i < cs.size), AVRel M cells[i] cs[i]
  boxM : ∀ b cells, s.box b = some cells → ∀ o, M b o = none
  boxT : ∀ b cells, s.box b = some cells → s.tok b = none
  tok : ∀ b k, s.tok b = some k → k.len ≤ k.cap ∧ (∃ t cs, w.heap[b]? = some (.cells cs t (0, 0)) ∧ cs.size = k.cap * k.size) ∧
    ∀ o, k.len * k.size ≤ o → M b o = none
  imm : ∀ b o v, M b o = some v → w.cell? ⟨b, o, none⟩ = some v
  glob : ∀ g cells, G g = some cells → ∀ i (h : i < cells.length), ∃ v, M g i = some v ∧ DRel M cells[i] v

theorem WRel.box_lt {G : Glob} {M : Mem} {s : St} {w : World} (h : WRel G M s w) {b : Nat} {cells : List AV} (hb : s.box b = some cells) : b < w.heap.size := by
  obtain ⟨t, cs, h1, _⟩ := h.box b cells hb
  exact (Array.getElem?_eq_some_iff.1 h1).1
theorem WRel.tok_lt {G : Glob} {M : Mem} {s : St} {w : World} (h : WRel G M s w) {b : Nat} {k : Tok} (hb : s.tok b = some k) : b < w.heap.size := by
  obtain ⟨_, ⟨t, cs, h1, _⟩, _⟩ := h.tok b k hb
  exact (Array.getElem?_eq_some_iff.1 h1).1
theorem WRel.imm_lt {G : Glob} {M : Mem} {s : St} {w : World} (h : WRel G M s w) {b o : Nat} {v : Value} (hb : M b o = some v) : b < w.heap.size :=
  World.block_lt_of_cell? w ⟨b, o, none⟩ (h.imm b o v hb)
theorem WRel.fresh {G : Glob} {M : Mem} {s : St} {w : World} (h : WRel G M s w) : s.fresh w.heap.size := by
  constructor
  · cases e : s.box w.heap.size with
    | none => rfl
    | some c => exact absurd (h.box_lt e) (Nat.lt_irrefl _)
  · cases e : s.tok w.heap.size with
    | none => rfl
    | some c => exact absurd (h.tok_lt e) (Nat.lt_irrefl _)
theorem WRel.M_new {G : Glob} {M : Mem} {s : St} {w : World} (h : WRel G M s w) {b : Nat} (hb : w.heap.size ≤ b) (o : Nat) : M b o = none := by
  cases e : M b o with
  | none => rfl
  | some v => exact absurd (h.imm_lt e) (by omega)

/-- What a step, or a call, may have done. -/
structure Frame (s s' : St) (M M' : Mem) (w w' : World) : Prop where
  os : w'.os = w.os
  tape : w'.tape = w.tape
  output : w'.output = w.output
  size : w.heap.size ≤ w'.heap.size
  blk : ∀ b, b < w.heap.size → s.box b = none → s.tok b = none → w'.heap[b]? = w.heap[b]?
  mem : ∀ b o, b < w.heap.size → s.tok b = none → s.box b = none → M' b o = M b o
  mle : MLe M M'
  domB : ∀ b, b < w.heap.size → s.box b = none → s.tok b = none → s'.box b = none ∧ s'.tok b = none

theorem Frame.refl (s : St) (M : Mem) (w : World) : Frame s s M M w w :=
  ⟨rfl, rfl, rfl, Nat.le_refl _, fun _ _ _ _ => rfl, fun _ _ _ _ _ => rfl, .refl _, fun _ _ h k => ⟨h, k⟩⟩
theorem Frame.trans {s s1 s2 : St} {M M1 M2 : Mem} {w w1 w2 : World} (h : Frame s s1 M M1 w w1) (k : Frame s1 s2 M1 M2 w1 w2) : Frame s s2 M M2 w w2 where
  os := k.os.trans h.os
  tape := k.tape.trans h.tape
  output := k.output.trans h.output
  size := Nat.le_trans h.size k.size
  blk := fun b hb h1 h2 => by
    obtain ⟨d1, d2⟩ := h.domB b hb h1 h2
    rw [k.blk b (Nat.lt_of_lt_of_le hb h.size) d1 d2, h.blk b hb h1 h2]
  mem := fun b o hb h1 h2 => by
    obtain ⟨d1, d2⟩ := h.domB b hb h2 h1
    rw [k.mem b o (Nat.lt_of_lt_of_le hb h.size) d2 d1, h.mem b o hb h1 h2]
  mle := h.mle.trans k.mle
  domB := fun b hb h1 h2 => by
    obtain ⟨d1, d2⟩ := h.domB b hb h1 h2
    exact k.domB b (Nat.lt_of_lt_of_le hb h.size) d1 d2

/-- Draws, and other worlds of the same memory. -/
theorem WRel.of_heap {G : Glob} {M : Mem} {s : St} {w w' : World} (h : WRel G M s w) (hh : w'.heap = w.heap) : WRel G M s w' where
  box := by rw [hh]; exact h.box
  boxM := h.boxM
  boxT := h.boxT
  tok := by rw [hh]; exact h.tok
  imm := fun b o v e => by
    have := h.imm b o v e
    unfold World.cell? at *
    rw [hh]; exact this
  glob := h.glob

end Go.Pv
