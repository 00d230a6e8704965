/- Bodies by small numbers among the arguments. No condition. -/
import Derived.Test.YtmcdhendjlijhaaV25
import Derived.Test.YtmcdhendjlijhaaX5
namespace Go.Pv
open Go.ChangeShapes Go.WideShapes Go.ChangeAt Go.RowKit

theorem wf_i16 {x : Int} (h : (Lit.int .i16 x).wf = true) : -32768 ≤ x ∧ x ≤ 32767 := by simp [Lit.wf, IntKind.min, IntKind.max, IntKind.signed, IntKind.bits] at h; omega
structure Sm10Tys (P : Program) (t u8 i16 bl : TypeId) : Prop where
  t : ∃ fs, P.underlying t = some (.struct fs) ∧ fs.toList.map (·.type) = [u8, u8, u8, u8, i16, bl]
  u : P.underlying u8 = some (.int .u8)
  i : P.underlying i16 = some (.int .i16)
  b : P.underlying bl = some .bool
theorem sm10_of {P : Program} {t u8 i16 bl : TypeId} (h : Sm10Tys P t u8 i16 bl) {n : Nat} {ds : List Dat} (ht : TyOk P n t ds) : ∃ x : Sm10, x.fit ∧ ds = x.row := by
  obtain ⟨fs, hS, hfs⟩ := h.t
  cases n with
  | zero => exact ht.elim
  | succ n =>
  have hs := ty_struct hS ht
  rw [hfs] at hs
  obtain ⟨a, _, rfl, ha, b, _, rfl, hb, c, _, rfl, hc, d, _, rfl, hd, e, _, rfl, he, f, _, rfl, hf, rfl⟩ := hs
  obtain ⟨x1, rfl, w1⟩ := ty_int h.u ha
  obtain ⟨x2, rfl, w2⟩ := ty_int h.u hb
  obtain ⟨x3, rfl, w3⟩ := ty_int h.u hc
  obtain ⟨x4, rfl, w4⟩ := ty_int h.u hd
  obtain ⟨x5, rfl, w5⟩ := ty_int h.i he
  obtain ⟨x6, rfl⟩ := ty_bool h.b hf
  exact ⟨⟨x1, x2, x3, x4, x5, x6⟩, ⟨wf_u8 w1, wf_u8 w2, wf_u8 w3, wf_u8 w4, wf_i16 w5⟩, rfl⟩
structure Sm11Tys (P : Program) (t nd nds u8 s10 l10 i16 bl st i64 li64 : TypeId) : Prop where
  t : ∃ fs, P.underlying t = some (.struct fs) ∧ fs.toList.map (·.type) = [nd, nd, l10, st, li64]
  n : ∃ fs, P.underlying nd = some (.struct fs) ∧ fs.toList.map (·.type) = [u8, u8, nds]
  ns : P.underlying nds = some (.slice nd)
  s : Sm10Tys P s10 u8 i16 bl
  l : P.underlying l10 = some (.slice s10)
  a : P.underlying st = some (.array 8 i64)
  i : P.underlying i64 = some (.int .i64)
  li : P.underlying li64 = some (.slice i64)
theorem list8 {S : List Int} (h : S.length = 8) : S = [S.getD 0 0, S.getD 1 0, S.getD 2 0, S.getD 3 0, S.getD 4 0, S.getD 5 0, S.getD 6 0, S.getD 7 0] := by
  match S, h with
  | [a, b, c, d, e, f, g, h], _ => rfl
theorem sm11_of {P : Program} {t nd nds u8 s10 l10 i16 bl st i64 li64 : TypeId} (h : Sm11Tys P t nd nds u8 s10 l10 i16 bl st i64 li64) {n : Nat} {ds : List Dat} (ht : TyOk P n t ds) : ∃ x : Sm11, x.fit ∧ ds.map AV.d = x.cs := by
  obtain ⟨fs, hS, hfs⟩ := h.t
  cases n with
  | zero => exact ht.elim
  | succ n =>
  have hs := ty_struct hS ht
  rw [hfs] at hs
  obtain ⟨a, _, rfl, ha, b, _, rfl, hb, c, _, rfl, hc, d, _, rfl, hd, e, _, rfl, he, rfl⟩ := hs
  obtain ⟨tk, f1, rfl⟩ := nd_of h.n h.ns h.s.u n a ha
  obtain ⟨an, f2, rfl⟩ := nd_of h.n h.ns h.s.u n b hb
  obtain ⟨S, hl, hr, e4⟩ := st_of h.a h.i n d hd
  cases n with
  | zero => exact hc.elim
  | succ n =>
  obtain ⟨rows, rfl, hl3, hr3⟩ := ty_slice h.l hc
  obtain ⟨rows5, rfl, hl5, hr5⟩ := ty_slice h.li he
  obtain ⟨p, fp, rfl⟩ := rows_of fun r hrm => sm10_of h.s (hr3 r hrm)
  obtain ⟨l, fl, rfl⟩ := rows_of (f := fun n => [Dat.int .i64 n]) (Q := fun x => -9223372036854775808 ≤ x ∧ x ≤ 9223372036854775807) fun r hrm => by
    obtain ⟨x, rfl, w⟩ := ty_int h.i (hr5 r hrm)
    exact ⟨x, wf_i64 w, rfl⟩
  refine ⟨⟨tk, an, p, S, l⟩, ⟨f1, f2, ⟨fp, by simp [maxLen] at hl3 ⊢; omega⟩, ⟨hl, hr⟩, ⟨fl, by simp [maxLen] at hl5 ⊢; omega⟩⟩, ?_⟩
  simp only [List.map_append, List.map_nil, List.append_nil, List.map_cons, Nd.row_av, e4]
  rw [list8 hl]
  rfl
end Go.Pv
/- Slices of instructions among the arguments. No condition. -/
namespace Go.Pv
open Go.ChangeShapes Go.WideShapes Go.ChangeAt Go.RowKit

section
variable {H : Type} {enc : TypeId × Value → H} {P : Program}
/-- A slice among the arguments. -/
theorem arg_slice {S : List TypeId} (hS : plainB P S = true) {t e : TypeId} (htS : t ∈ S) (ht : P.underlying t = some (.slice e)) {W : World} {r : Reach} {b0 : Nat} {v : Value} {d : DataW H} {ps : List MemPlace} {sp : Nat → Bool} {held : Bool}
    (hval : Value.okWide P W r b0 t v) (h : DataW.Trod enc P W 0 sp held t v d ps) : ∃ n rows, rows.length ≤ maxLen ∧ (∀ r ∈ rows, TyOk P n e r) ∧ AVRel (Mem.of W) (.d (.sl rows)) v := by
  obtain ⟨n, ds, h1, h2⟩ := arg_plain hS htS (slice_cells ht hval) h
  cases n with
  | zero => exact h1.elim
  | succ n =>
    obtain ⟨rows, rfl, hl, hr⟩ := ty_slice ht h1
    cases h2 with
    | cons h3 _ => exact ⟨n, rows, hl, hr, .d _ _ h3⟩
theorem arg_sm10 {S : List TypeId} (hS : plainB P S = true) {t e u8 i16 bl : TypeId} (htS : t ∈ S) (ht : P.underlying t = some (.slice e)) (hT : Sm10Tys P e u8 i16 bl) {W : World} {r : Reach} {b0 : Nat} {v : Value} {d : DataW H} {ps : List MemPlace} {sp : Nat → Bool} {held : Bool}
    (hval : Value.okWide P W r b0 t v) (h : DataW.Trod enc P W 0 sp held t v d ps) : ∃ l : List Sm10, (∀ x ∈ l, x.fit) ∧ l.length < 2 ^ 63 ∧ AVRel (Mem.of W) (.d (.sl (l.map Sm10.row))) v := by
  obtain ⟨n, rows, hl, hr, hv⟩ := arg_slice hS htS ht hval h
  obtain ⟨l, fl, rfl⟩ := rows_of fun r hrm => sm10_of hT (hr r hrm)
  exact ⟨l, fl, by simp [maxLen] at hl ⊢; omega, hv⟩
theorem ins_of {t op u8 i16 : TypeId} (h : ∃ fs, P.underlying t = some (.struct fs) ∧ fs.toList.map (·.type) = [op, u8, u8, u8, i16]) (ho : P.underlying op = some (.int .u8)) (hu : P.underlying u8 = some (.int .u8)) (hi : P.underlying i16 = some (.int .i16)) {n : Nat} {ds : List Dat} (ht : TyOk P n t ds) : ∃ x : Ins, x.fit ∧ ds = x.row := by
  obtain ⟨fs, hS, hfs⟩ := h
  cases n with
  | zero => exact ht.elim
  | succ n =>
  have hs := ty_struct hS ht
  rw [hfs] at hs
  obtain ⟨a, _, rfl, ha, b, _, rfl, hb, c, _, rfl, hc, d, _, rfl, hd, e, _, rfl, he, rfl⟩ := hs
  obtain ⟨x1, rfl, w1⟩ := ty_int ho ha
  obtain ⟨x2, rfl, w2⟩ := ty_int hu hb
  obtain ⟨x3, rfl, w3⟩ := ty_int hu hc
  obtain ⟨x4, rfl, w4⟩ := ty_int hu hd
  obtain ⟨x5, rfl, w5⟩ := ty_int hi he
  exact ⟨⟨x1, x2, x3, x4, x5⟩, ⟨wf_u8 w1, wf_u8 w2, wf_u8 w3, wf_u8 w4, wf_i16 w5⟩, rfl⟩
theorem arg_ins {S : List TypeId} (hS : plainB P S = true) {t e op u8 i16 : TypeId} (htS : t ∈ S) (ht : P.underlying t = some (.slice e)) (hT : ∃ fs, P.underlying e = some (.struct fs) ∧ fs.toList.map (·.type) = [op, u8, u8, u8, i16]) (ho : P.underlying op = some (.int .u8)) (hu : P.underlying u8 = some (.int .u8)) (hi : P.underlying i16 = some (.int .i16))
    {W : World} {r : Reach} {b0 : Nat} {v : Value} {d : DataW H} {ps : List MemPlace} {sp : Nat → Bool} {held : Bool}
    (hval : Value.okWide P W r b0 t v) (h : DataW.Trod enc P W 0 sp held t v d ps) : ∃ l : List Ins, (∀ x ∈ l, x.fit) ∧ l.length < 2 ^ 63 ∧ AVRel (Mem.of W) (.d (.sl (l.map Ins.row))) v := by
  obtain ⟨n, rows, hl, hr, hv⟩ := arg_slice hS htS ht hval h
  obtain ⟨l, fl, rfl⟩ := rows_of fun r hrm => ins_of hT ho hu hi (hr r hrm)
  exact ⟨l, fl, by simp [maxLen] at hl ⊢; omega, hv⟩
end
end Go.Pv
