/- Small types, interfaces among the arguments. No condition. -/
import Derived.Test.YtdggkhnelmonkaaDoorD1
import Derived.Test.YtdggkhnelmonkaaDoorP20
namespace Go.Pv
open Go.ChangeShapes Go.WideShapes Go.ChangeAt Go.RowKit

theorem rows_of {α : Type} {Q : α → Prop} {f : α → List Dat} : ∀ {rows : List (List Dat)}, (∀ r ∈ rows, ∃ x, Q x ∧ r = f x) → ∃ l : List α, (∀ x ∈ l, Q x) ∧ rows = l.map f
  | [], _ => ⟨[], fun _ h => (by cases h), rfl⟩
  | r :: rows, h => by
    obtain ⟨l, h1, h2⟩ := rows_of (rows := rows) fun r hr => h r (List.mem_cons_of_mem _ hr)
    obtain ⟨x, hx, rfl⟩ := h r List.mem_cons_self
    exact ⟨x :: l, fun y hy => by
      rcases List.mem_cons.1 hy with rfl | hy
      · exact hx
      · exact h1 y hy, by rw [h2]; rfl⟩

section
variable {P : Program}
theorem ty_int {t : TypeId} {k : IntKind} (h : P.underlying t = some (.int k)) {n : Nat} {ds : List Dat} (ht : TyOk P n t ds) : ∃ x, ds = [.int k x] ∧ (Lit.int k x).wf = true := by
  cases n with
  | zero => exact ht.elim
  | succ n => simpa only [TyOk, h] using ht
theorem ty_flt {t : TypeId} {k : FloatKind} (h : P.underlying t = some (.float k)) {n : Nat} {ds : List Dat} (ht : TyOk P n t ds) : ∃ x, ds = [.flt k x] ∧ (Lit.float k x).wf = true := by
  cases n with
  | zero => exact ht.elim
  | succ n => simpa only [TyOk, h] using ht
theorem ty_str {t : TypeId} (h : P.underlying t = some .string) {n : Nat} {ds : List Dat} (ht : TyOk P n t ds) : ∃ s : ByteArray, ds = [.str s] ∧ s.size ≤ maxLen := by
  cases n with
  | zero => exact ht.elim
  | succ n => simpa only [TyOk, h] using ht
theorem ty_bool {t : TypeId} (h : P.underlying t = some .bool) {n : Nat} {ds : List Dat} (ht : TyOk P n t ds) : ∃ b, ds = [.bool b] := by
  cases n with
  | zero => exact ht.elim
  | succ n => simpa only [TyOk, h] using ht
theorem ty_slice {t e : TypeId} (h : P.underlying t = some (.slice e)) {n : Nat} {ds : List Dat} (ht : TyOk P (n + 1) t ds) : ∃ rows, ds = [.sl rows] ∧ rows.length ≤ maxLen ∧ ∀ r ∈ rows, TyOk P n e r := by
  simpa only [TyOk, h] using ht
theorem ty_struct {t : TypeId} {fs : Array Field} (h : P.underlying t = some (.struct fs)) {n : Nat} {ds : List Dat} (ht : TyOk P (n + 1) t ds) : fieldsOk (TyOk P n) (fs.toList.map (·.type)) ds := by
  simpa only [TyOk, h] using ht
theorem wf_u8 {x : Int} (h : (Lit.int .u8 x).wf = true) : 0 ≤ x ∧ x ≤ 255 := by simp [Lit.wf, IntKind.min, IntKind.max, IntKind.signed, IntKind.bits] at h; omega
theorem wf_u16 {x : Int} (h : (Lit.int .u16 x).wf = true) : 0 ≤ x ∧ x ≤ 65535 := by simp [Lit.wf, IntKind.min, IntKind.max, IntKind.signed, IntKind.bits] at h; omega
theorem wf_i64 {x : Int} (h : (Lit.int .i64 x).wf = true) : -9223372036854775808 ≤ x ∧ x ≤ 9223372036854775807 := by simp [Lit.wf, IntKind.min, IntKind.max, IntKind.signed, IntKind.bits] at h; omega

/-- The types' numbers: a small type, a slice of them, a procedure, a slice of them, an interface; numbers of eight, of sixteen bits. -/
structure SmTys (P : Program) (tN tNs tP tPs tS tU tV : TypeId) : Prop where
  n : ∃ fs, P.underlying tN = some (.struct fs) ∧ fs.toList.map (·.type) = [tU, tU, tNs]
  ns : P.underlying tNs = some (.slice tN)
  u : P.underlying tU = some (.int .u8)
  v : P.underlying tV = some (.int .u16)
  p : ∃ fs, P.underlying tP = some (.struct fs) ∧ fs.toList.map (·.type) = [tN, tN, tU, tV]
  ps : P.underlying tPs = some (.slice tP)
  s : ∃ fs, P.underlying tS = some (.struct fs) ∧ fs.toList.map (·.type) = [tV, tNs, tU, tPs]
theorem nd_of {tN tNs tU : TypeId} (h1 : ∃ fs, P.underlying tN = some (.struct fs) ∧ fs.toList.map (·.type) = [tU, tU, tNs]) (h2 : P.underlying tNs = some (.slice tN)) (h3 : P.underlying tU = some (.int .u8)) :
    ∀ (n : Nat) (ds : List Dat), TyOk P n tN ds → ∃ x : Nd, x.fit ∧ ds = x.row := by
  intro n
  induction n using Nat.strongRecOn with
  | ind n ih =>
  intro ds h
  obtain ⟨fs, hN, hfs⟩ := h1
  cases n with
  | zero => exact h.elim
  | succ n =>
  have hs := ty_struct hN h
  rw [hfs] at hs
  obtain ⟨a, _, rfl, ha, b, _, rfl, hb, c, _, rfl, hc, rfl⟩ := hs
  obtain ⟨k, rfl, wk⟩ := ty_int h3 ha
  obtain ⟨m, rfl, wm⟩ := ty_int h3 hb
  cases n with
  | zero => exact hc.elim
  | succ n =>
  obtain ⟨rows, rfl, hl, hr⟩ := ty_slice h2 hc
  obtain ⟨l, hq, rfl⟩ := rows_of fun r hrm => ih n (by omega) r (hr r hrm)
  refine ⟨.mk k m l, ?_, ?_⟩
  · rw [Nd.fit_eq]
    exact ⟨wf_u8 wk, wf_u8 wm, by simp [maxLen, Nd.of] at hl ⊢; omega, hq⟩
  · rw [Nd.row_eq]; rfl
theorem sm_of {tN tNs tP tPs tS tU tV : TypeId} (h : SmTys P tN tNs tP tPs tS tU tV) {n : Nat} {ds : List Dat} (ht : TyOk P n tS ds) : ∃ s : Sm, s.fit ∧ AV.agg (ds.map .d) = s.av := by
  obtain ⟨fs, hS, hfs⟩ := h.s
  obtain ⟨gs, hP, hgs⟩ := h.p
  cases n with
  | zero => exact ht.elim
  | succ n =>
  have hs := ty_struct hS ht
  rw [hfs] at hs
  obtain ⟨a, _, rfl, ha, b, _, rfl, hb, c, _, rfl, hc, d, _, rfl, hd, rfl⟩ := hs
  obtain ⟨num, rfl, w1⟩ := ty_int h.v ha
  obtain ⟨fl, rfl, w2⟩ := ty_int h.u hc
  cases n with
  | zero => exact hd.elim
  | succ n =>
  obtain ⟨rows, rfl, hl, hr⟩ := ty_slice h.ns hb
  obtain ⟨rows', rfl, hl', hr'⟩ := ty_slice h.ps hd
  obtain ⟨l, hq, rfl⟩ := rows_of fun r hrm => nd_of h.n h.ns h.u n r (hr r hrm)
  have key : ∀ r ∈ rows', ∃ p : Pr, p.fit ∧ r = p.row := by
    intro r hrm
    have h0 := hr' r hrm
    cases n with
    | zero => exact h0.elim
    | succ n =>
    have hp := ty_struct hP h0
    rw [hgs] at hp
    obtain ⟨a, _, rfl, ha, b, _, rfl, hb, c, _, rfl, hc, d, _, rfl, hd, rfl⟩ := hp
    obtain ⟨x, hx, rfl⟩ := nd_of h.n h.ns h.u n _ ha
    obtain ⟨y, hy, rfl⟩ := nd_of h.n h.ns h.u n _ hb
    obtain ⟨co, rfl, w3⟩ := ty_int h.u hc
    obtain ⟨ti, rfl, w4⟩ := ty_int h.v hd
    exact ⟨⟨x, y, co, ti⟩, ⟨hx, hy, wf_u8 w3, wf_u16 w4⟩, by rw [Nd.row_eq, Nd.row_eq]; rfl⟩
  obtain ⟨l', hq', rfl⟩ := rows_of key
  exact ⟨⟨num, l, fl, l'⟩, ⟨wf_u16 w1, by simp [maxLen] at hl ⊢; omega, hq, wf_u8 w2, by simp [maxLen] at hl' ⊢; omega, hq'⟩, rfl⟩
end
section
variable {H : Type} {enc : TypeId × Value → H} {P : Program}
/-- A structure among the arguments. -/
theorem arg_struct {S : List TypeId} (hS : plainB P S = true) {t : TypeId} (htS : t ∈ S) {fs : Array Field} (ht : P.underlying t = some (.struct fs)) {W : World} {r : Reach} {b0 : Nat} {v : Value} {d : DataW H} {ps : List MemPlace} {sp : Nat → Bool} {held : Bool}
    (hval : Value.okWide P W r b0 t v) (h : DataW.Trod enc P W 0 sp held t v d ps) : ∃ n ds, TyOk P n t ds ∧ AVRel (Mem.of W) (.agg (ds.map .d)) v := by
  obtain ⟨cs, rfl, _⟩ := okWide_struct ht hval
  obtain ⟨fuel, hf⟩ := h
  obtain ⟨_, ds, h1, h2⟩ := read_plain hS fuel t _ _ htS hf
  refine ⟨fuel, ds, h2, ?_⟩
  have := AVRel.agg (M := Mem.of W) (ds.map .d) cs.toList (by rw [List.length_map]; exact h1.len.symm) fun i hi hi' => by
    rw [List.getElem_map]
    exact .d _ _ (h1.get i (by simpa using hi) hi')
  simpa using this
theorem okWide_array {n : Nat} {e : TypeId} {w : World} {r : Reach} {base : Nat} {t : TypeId} {v : Value} (ht : P.underlying t = some (.array n e)) (h : Value.okWide P w r base t v) : ∃ cs, v = .agg cs ∧ cs.size = P.cellsOf t := by
  unfold Value.okWide at h
  rw [ht] at h
  cases v <;> simp_all
/-- An array among the arguments. -/
theorem arg_array {S : List TypeId} (hS : plainB P S = true) {t : TypeId} (htS : t ∈ S) {k : Nat} {e : TypeId} (ht : P.underlying t = some (.array k e)) {W : World} {r : Reach} {b0 : Nat} {v : Value} {d : DataW H} {ps : List MemPlace} {sp : Nat → Bool} {held : Bool}
    (hval : Value.okWide P W r b0 t v) (h : DataW.Trod enc P W 0 sp held t v d ps) : ∃ n ds, TyOk P n t ds ∧ AVRel (Mem.of W) (.agg (ds.map .d)) v := by
  obtain ⟨cs, rfl, _⟩ := okWide_array ht hval
  obtain ⟨fuel, hf⟩ := h
  obtain ⟨_, ds, h1, h2⟩ := read_plain hS fuel t _ _ htS hf
  refine ⟨fuel, ds, h2, ?_⟩
  have := AVRel.agg (M := Mem.of W) (ds.map .d) cs.toList (by rw [List.length_map]; exact h1.len.symm) fun i hi hi' => by
    rw [List.getElem_map]
    exact .d _ _ (h1.get i (by simpa using hi) hi')
  simpa using this
theorem arg_plain {S : List TypeId} (hS : plainB P S = true) {t : TypeId} (htS : t ∈ S) {W : World} {v : Value} (hone : v.cells.toList = [v]) {d : DataW H} {ps : List MemPlace} {sp : Nat → Bool} {held : Bool}
    (h : DataW.Trod enc P W 0 sp held t v d ps) : ∃ n ds, TyOk P n t ds ∧ DAll (Mem.of W) ds [v] := by
  obtain ⟨fuel, hf⟩ := h
  obtain ⟨_, ds, h1, h2⟩ := read_plain hS fuel t _ _ htS hf
  exact ⟨fuel, ds, h2, by rw [← hone]; exact h1⟩
theorem slice_cells {t e : TypeId} (ht : P.underlying t = some (.slice e)) {W : World} {r : Reach} {b0 : Nat} {v : Value} (hval : Value.okWide P W r b0 t v) : v.cells.toList = [v] := by
  obtain ⟨a, len, cap, rfl⟩ := okWide_slice ht hval
  rfl
end
end Go.Pv
