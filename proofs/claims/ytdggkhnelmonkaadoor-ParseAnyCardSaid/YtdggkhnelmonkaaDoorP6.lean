/- What a call, by value, says of the machine's call. No condition. -/
import Derived.Test.YtdggkhnelmonkaaDoorP5
import Derived.Great.FillDense
import Derived.Lib.ConvBytes
import Derived.Laws.BytesArg
import Derived.ChangeKeysEq
namespace Go.Pv

/-- Lists of abstract values and of values. -/
def ARel (M : Mem) (l : List AV) (vs : List Value) : Prop := vs.length = l.length ∧ ∀ i (h : i < l.length) (h' : i < vs.length), AVRel M l[i] vs[i]

theorem ARel.nil (M : Mem) : ARel M [] [] := ⟨rfl, fun i h => by simp at h⟩
theorem ARel.cons {M : Mem} {x : AV} {v : Value} {l : List AV} {vs : List Value} (h : AVRel M x v) (k : ARel M l vs) : ARel M (x :: l) (v :: vs) := by
  refine ⟨by simp [k.1], fun i h1 h2 => ?_⟩
  cases i with
  | zero => exact h
  | succ i => exact k.2 i (by simpa using h1) (by simpa using h2)
theorem ARel.mono {M M' : Mem} (hm : MLe M M') {l : List AV} {vs : List Value} (h : ARel M l vs) : ARel M' l vs := ⟨h.1, fun i h1 h2 => (h.2 i h1 h2).mono hm⟩
theorem ARel.append {M : Mem} {l k : List AV} {vs us : List Value} (h : ARel M l vs) (g : ARel M k us) : ARel M (l ++ k) (vs ++ us) := by
  refine ⟨by simp [h.1, g.1], fun i h1 h2 => ?_⟩
  by_cases hi : i < l.length
  · rw [List.getElem_append_left hi, List.getElem_append_left (by rw [h.1]; exact hi)]
    exact h.2 i hi _
  · have hi' : l.length ≤ i := by omega
    rw [List.getElem_append_right hi', List.getElem_append_right (by rw [h.1]; exact hi')]
    have : i - vs.length = i - l.length := by rw [h.1]
    simp only [this]
    have e1 := h.1; have e2 := g.1; simp at h1 h2
    exact g.2 (i - l.length) (by omega) (by omega)
theorem ARel.take {M : Mem} {l : List AV} {vs : List Value} (h : ARel M l vs) (n : Nat) : ARel M (l.take n) (vs.take n) := by
  refine ⟨by simp [h.1], fun i h1 h2 => ?_⟩
  simp only [List.getElem_take]
  exact h.2 i (by simp at h1; omega) (by simp at h2; omega)
theorem ARel.drop {M : Mem} {l : List AV} {vs : List Value} (h : ARel M l vs) (n : Nat) : ARel M (l.drop n) (vs.drop n) := by
  refine ⟨by simp [h.1], fun i h1 h2 => ?_⟩
  simp only [List.getElem_drop]
  exact h.2 (n + i) (by simp at h1; omega) (by simp at h2; omega)
theorem ARel.map {M : Mem} {α β : Type} {f : α → AV} {g : β → Value} : ∀ {l : List α} {k : List β}, k.length = l.length →
    (∀ i (h : i < l.length) (h' : i < k.length), AVRel M (f l[i]) (g k[i])) → ARel M (l.map f) (k.map g) := by
  intro l k hl h
  refine ⟨by simp [hl], fun i h1 h2 => ?_⟩
  simp only [List.getElem_map]
  exact h i (by simpa using h1) (by simpa using h2)

/-- What a panic that leaves a call may bring: its value, and the state then. -/
structure PE where
  E : AV → St → Prop
  up : ∀ r st b cells, st.fresh b → E r st → E r (st.setBox b cells)
/-- None. -/
def PE.no : PE := ⟨fun _ _ => False, fun _ _ _ _ _ h => h⟩
/-- It ends by a panic. -/
def PPan (G : Glob) (E : PE) (st : St) (M : Mem) (w : World) (e : Ending) (w' : World) : Prop :=
  ∃ v r st' M', e = .panicked [{ v := v, recovered := false }] ∧ WRel G M' st' w' ∧ AVRel M' r v ∧ Frame st st' M M' w w' ∧ E.E r st'

/-- A CALL, BY VALUE: in whatever world that the state stands for, at whatever values of these arguments. (The last arm: a panic in the text itself.) -/
def PCallsE (P : Program) (G : Glob) (E : PE) : CallsP := fun f as st R =>
  (entered P f = true ∧ ∀ (M : Mem) (w : World) (vals : Array Value), WRel G M st w → ARel M as vals.toList →
    Calls P f vals w fun e w' => (∃ v r st' M', e = .returned v ∧ WRel G M' st' w' ∧ AVRel M' r v ∧ Frame st st' M M' w w' ∧ R r st') ∨ PPan G E st M w e w') ∨
  (f = P.funcs.size ∧ (∀ r st', ¬ R r st') ∧ ∃ v, as = [v] ∧ E.E v st)
/-- One that ends by no panic. -/
abbrev PCalls (P : Program) (G : Glob) : CallsP := PCallsE P G PE.no
theorem PCalls.ends {P : Program} {G : Glob} {f : FuncId} {as : List AV} {st : St} {R : AV → St → Prop} (h : PCalls P G f as st R) : entered P f = true ∧ ∀ (M : Mem) (w : World) (vals : Array Value), WRel G M st w → ARel M as vals.toList →
    Calls P f vals w fun e w' => ∃ v r st' M', e = .returned v ∧ WRel G M' st' w' ∧ AVRel M' r v ∧ Frame st st' M M' w w' ∧ R r st' := by
  rcases h with ⟨h1, h2⟩ | ⟨_, _, _, _, h⟩
  · refine ⟨h1, fun M w vals hW hA => (h2 M w vals hW hA).mono ?_⟩
    rintro e w' (h | ⟨_, _, _, _, _, _, _, _, h⟩)
    · exact h
    · exact h.elim
  · exact h.elim
theorem PCallsE.of {P : Program} {G : Glob} {E : PE} {f : FuncId} {as : List AV} {st : St} {R : AV → St → Prop} (h1 : entered P f = true) (h2 : ∀ (M : Mem) (w : World) (vals : Array Value), WRel G M st w → ARel M as vals.toList →
    Calls P f vals w fun e w' => ∃ v r st' M', e = .returned v ∧ WRel G M' st' w' ∧ AVRel M' r v ∧ Frame st st' M M' w w' ∧ R r st') : PCallsE P G E f as st R :=
  .inl ⟨h1, fun M w vals hW hA => (h2 M w vals hW hA).mono fun _ _ h => .inl h⟩
/-- A call that ends by no panic, among those that may. -/
theorem PCalls.may {P : Program} {G : Glob} (E : PE) {f : FuncId} {as : List AV} {st : St} {R : AV → St → Prop} (h : PCalls P G f as st R) : PCallsE P G E f as st R := .of h.ends.1 h.ends.2

theorem WRel.dropNew {G : Glob} {M : Mem} {st : St} {w : World} {b : Nat} {cells : List AV} (h : WRel G M (st.setBox b cells) w) (hb : st.fresh b) : WRel G M st w where
  box := fun c l hc => h.box c l (St.box_fresh hb cells hc)
  boxM := fun c l hc => h.boxM c l (St.box_fresh hb cells hc)
  boxT := fun c l hc => h.boxT c l (St.box_fresh hb cells hc)
  tok := h.tok
  imm := h.imm
  glob := h.glob

/-- Beside one variable more. -/
theorem pcalls_frame0 (P : Program) (G : Glob) (E : PE) (f : FuncId) (as : List AV) (st : St) (R : AV → St → Prop) (b : Nat) (cells : List AV) (h0 : PCallsE P G E f as st R) (hb : st.fresh b) :
    PCallsE P G E f as (st.setBox b cells) (fun r st'' => ∃ st', R r st' ∧ st'.fresh b ∧ st'' = st'.setBox b cells) := by
  rcases h0 with ⟨hent, h⟩ | ⟨hf, hno, v, rfl, hv⟩
  rotate_left
  · exact .inr ⟨hf, fun r st'' ⟨st', k, _⟩ => hno r st' k, v, rfl, E.up _ _ _ _ hb hv⟩
  refine .inl ⟨hent, fun M w vals hW hA => ?_⟩
  have hself : (st.setBox b cells).box b = some cells := by simp
  have hlt : b < w.heap.size := hW.box_lt hself
  have both : ∀ (st' : St) (M' : Mem) (w' : World), WRel G M' st' w' → Frame st st' M M' w w' → WRel G M' (st'.setBox b cells) w' ∧ Frame (st.setBox b cells) (st'.setBox b cells) M M' w w' := by
    intro st' M' w' hW' hF
    refine ⟨?_, ?_⟩
    · obtain ⟨t, cs, h1, h2, h3⟩ := hW.box b cells hself
      refine ⟨fun c l hc => ?_, fun c l hc o => ?_, fun c l hc => ?_, hW'.tok, hW'.imm, hW'.glob⟩
      · by_cases hcb : c = b
        · subst hcb
          simp at hc; subst hc
          exact ⟨t, cs, by rw [hF.blk c hlt hb.1 hb.2]; exact h1, h2, fun i a b => (h3 i a b).mono hF.mle⟩
        · rw [St.box_fresh' cells hcb] at hc
          exact hW'.box c l hc
      · by_cases hcb : c = b
        · subst hcb
          rw [hF.mem c o hlt hb.2 hb.1]
          exact hW.boxM c _ hself o
        · rw [St.box_fresh' cells hcb] at hc
          exact hW'.boxM c l hc o
      · by_cases hcb : c = b
        · subst hcb; exact (hF.domB _ hlt hb.1 hb.2).2
        · rw [St.box_fresh' cells hcb] at hc
          exact hW'.boxT c l hc
    · have key : ∀ (s : St) (c : Nat), (s.setBox b cells).box c = none → s.box c = none ∧ c ≠ b := by
        intro s c hc
        by_cases hcb : c = b
        · subst hcb; simp at hc
        · exact ⟨by rwa [St.box_fresh' cells hcb] at hc, hcb⟩
      exact ⟨hF.os, hF.tape, hF.output, hF.size, fun c hc h1 h2 => hF.blk c hc (key _ c h1).1 h2, fun c o hc h1 h2 => hF.mem c o hc h1 (key _ c h2).1, hF.mle, fun c hc h1 h2 => by
        obtain ⟨k1, k2⟩ := key _ c h1
        obtain ⟨d1, d2⟩ := hF.domB c hc k1 h2
        exact ⟨by rw [St.box_fresh' cells k2]; exact d1, d2⟩⟩
  refine (h M w vals (hW.dropNew hb) hA).mono ?_
  rintro e w' (⟨v, r, st', M', he, hW', hr, hF, hR⟩ | ⟨v, r, st', M', he, hW', hr, hF, hR⟩)
  · exact .inl ⟨v, r, _, M', he, (both _ _ _ hW' hF).1, hr, (both _ _ _ hW' hF).2, st', hR, hF.domB b hlt hb.1 hb.2, rfl⟩
  · exact .inr ⟨v, r, _, M', he, (both _ _ _ hW' hF).1, hr, (both _ _ _ hW' hF).2, E.up _ _ _ _ (hF.domB b hlt hb.1 hb.2) hR⟩
theorem pcalls_mono {P : Program} {G : Glob} {E : PE} {f : FuncId} {as : List AV} {st : St} {R R' : AV → St → Prop} (h : PCallsE P G E f as st R) (hR : ∀ r st', R r st' → R' r st') (hR' : ∀ r st', R' r st' → ∃ r st', R r st') : PCallsE P G E f as st R' := by
  rcases h with h | ⟨hf, hno, h⟩
  · exact .inl ⟨h.1, fun M w vals hW hA => (h.2 M w vals hW hA).mono fun _ _ k => k.imp_left fun ⟨v, r, st', M', a1, a2, a3, a4, a5⟩ => ⟨v, r, st', M', a1, a2, a3, a4, hR r st' a5⟩⟩
  · exact .inr ⟨hf, fun r st' k => (hR' r st' k).elim fun r k => k.elim fun st' k => hno r st' k, h⟩
theorem pcalls_frame (P : Program) (G : Glob) (E : PE) : CFrame (PCallsE P G E) :=
  ⟨fun f as st R b cells h hb => pcalls_mono (pcalls_frame0 P G E f as st _ b cells h hb) (by rintro r st'' ⟨st', ⟨rfl, hR⟩, _, rfl⟩; exact ⟨rfl, hR⟩) (by rintro r _ ⟨rfl, hR⟩; exact ⟨r, _, _, ⟨rfl, hR⟩, hb, rfl⟩), pcalls_frame0 P G E⟩

/-- What is known of a frame all along: its deferred calls, and some slots that nothing writes. -/
structure Fr where
  D : List Deferred
  pin : List (Nat × Value)
def Fr.ok (D : Fr) (a : Act) : Prop := a.defers = D.D ∧ ∀ p ∈ D.pin, a.tmps[p.1]? = some p.2
def Fr.no : Fr := ⟨[], []⟩

/-- How a frame of the machine stands to slots. -/
structure XRel (D : Fr) (G : Glob) (M : Mem) (N : Nat) (x : X) (a : Act) (w : World) : Prop where
  w : WRel G M x.m.st w
  s : ∀ t, AVRel M (x.sl t) (a.tmps.getD t undef)
  n : a.tmps.size = N
  d : D.ok a

theorem XRel.put {D : Fr} {G : Glob} {M M' : Mem} {N : Nat} {x : X} {a : Act} {w w' : World} {m' : Mx} {d : Option Nat} {r : AV} {v : Value}
    (h : XRel D G M N x a w) (hm : MLe M M') (hw : WRel G M' m'.st w') (hv : AVRel M' r v) (hd : ∀ t, d = some t → t < N ∧ ∀ p ∈ D.pin, p.1 ≠ t) : XRel D G M' N ⟨put x.sl d r, m'⟩ (a.put d v) w' := by
  cases d with
  | none => exact ⟨hw, fun t => (h.s t).mono hm, h.n, h.d⟩
  | some t =>
    refine ⟨hw, fun u => ?_, by simp [Act.put, h.n], h.d.1, fun p hp => by rw [Act.put]; simp only; rw [Array.getElem?_setIfInBounds_ne (fun e => (hd t rfl).2 p hp e.symm)]; exact h.d.2 p hp⟩
    have ht := (hd t rfl).1
    have hn := h.n
    simp only [Pv.put, Act.put]
    by_cases hu : u = t
    · subst hu
      rw [if_pos rfl]
      simpa [Array.getD_eq_getD_getElem?, Array.getElem?_setIfInBounds, hn, ht] using hv
    · rw [if_neg hu]
      have : (a.tmps.setIfInBounds t v).getD u undef = a.tmps.getD u undef := by
        simp [Array.getD_eq_getD_getElem?, Ne.symm hu]
      rw [this]
      exact (h.s u).mono hm

/-! Looking at values. -/
section inv
variable {M : Mem}
theorem inv_int {k : IntKind} {n : Int} {v : Value} (h : AVRel M (.d (.int k n)) v) : v = .int k n := by cases h with | d _ _ h => cases h; rfl
theorem inv_bool {b : Bool} {v : Value} (h : AVRel M (.d (.bool b)) v) : v = .bool b := by cases h with | d _ _ h => cases h; rfl
theorem inv_str {s : ByteArray} {v : Value} (h : AVRel M (.d (.str s)) v) : v = .string s := by cases h with | d _ _ h => cases h; rfl
theorem inv_flt {k : FloatKind} {n : Nat} {v : Value} (h : AVRel M (.d (.flt k n)) v) : v = .float k n := by cases h with | d _ _ h => cases h; rfl
theorem inv_ptr {b o : Nat} {v : Value} (h : AVRel M (.d (.ptr b o)) v) : v = .pointer (some ⟨b, o, none⟩) := by cases h with | d _ _ h => cases h; rfl
theorem inv_bsl {b o l c : Nat} {v : Value} (h : AVRel M (.bsl b o l c) v) : v = .slice (some ⟨b, o, none⟩) l c ∧ l ≤ c := by cases h with | bsl _ _ _ _ h => exact ⟨rfl, h⟩
theorem inv_agg {l : List AV} {v : Value} (h : AVRel M (.agg l) v) : ∃ cs : List Value, v = .agg cs.toArray ∧ ARel M l cs := by
  cases h with | agg _ cs hl h1 => exact ⟨cs, rfl, hl, h1⟩
theorem inv_tup {l : List AV} {v : Value} (h : AVRel M (.tup l) v) : ∃ cs : List Value, v = .tuple cs.toArray ∧ ARel M l cs := by
  cases h with | tup _ cs hl h1 => exact ⟨cs, rfl, hl, h1⟩

/-- Rows that lie in memory for good. -/
def RowsAt (M : Mem) (rows : List (List Dat)) (A : Option Addr) : Prop :=
  rows = [] ∨ ∃ b off size, ∃ vs : Nat → Value, A = some ⟨b, off, none⟩ ∧ (∀ r ∈ rows, r.length = size) ∧
    (∀ o, o < rows.length * size → M b (off + o) = some (vs o)) ∧ ∀ i j (hi : i < rows.length) (hj : j < rows[i].length), DRel M rows[i][j] (vs (i * size + j))

theorem inv_rows {x : AV} {rows : List (List Dat)} (hx : x.rows? = some rows) {v : Value} (h : AVRel M x v) :
    ∃ A cap, v = .slice A rows.length cap ∧ rows.length ≤ cap ∧ RowsAt M rows A := by
  cases h with
  | undef => cases hx
  | d y v h =>
    cases h <;> simp only [AV.rows?] at hx <;> try (cases hx; done)
    case slE a cap => cases hx; exact ⟨a, cap, rfl, Nat.zero_le _, .inl rfl⟩
    case sl rows' b off cap size vs hc hs hm hr => cases hx; exact ⟨_, cap, rfl, hc, .inr ⟨b, off, size, vs, rfl, hs, hm, hr⟩⟩
  | fullE => cases hx; exact ⟨none, 0, rfl, Nat.zero_le _, .inl rfl⟩
  | full rows' b size vs hs hm hr => cases hx; exact ⟨_, _, rfl, Nat.le_refl _, .inr ⟨b, 0, size, vs, rfl, hs, by simpa using hm, hr⟩⟩
  | own b rows' cap size vs hc hs hm hr => cases hx; exact ⟨_, _, rfl, hc, .inr ⟨b, 0, size, vs, rfl, hs, by simpa using hm, hr⟩⟩
  | bsl => cases hx
  | elt => cases hx
  | agg => cases hx
  | tup => cases hx

theorem RowsAt.rel {rows : List (List Dat)} {A : Option Addr} {cap : Nat} (h : RowsAt M rows A) (hc : rows.length ≤ cap) : DRel M (.sl rows) (.slice A rows.length cap) := by
  rcases h with rfl | ⟨b, off, size, vs, rfl, hs, hm, hr⟩
  · exact .slE A cap
  · exact .sl rows b off cap size vs hc hs hm hr

theorem dat_rel {x : AV} {y : Dat} (hx : x.dat? = some y) {v : Value} (h : AVRel M x v) : DRel M y v := by
  have key : ∀ rows, x.rows? = some rows → DRel M (.sl rows) v := fun rows hr => by
    obtain ⟨A, cap, rfl, hc, k⟩ := inv_rows hr h
    exact k.rel hc
  cases x <;> simp only [AV.dat?] at hx <;> try (cases hx; done)
  case d z => cases hx; cases h with | d _ _ h => exact h
  case full rows => cases hx; exact key rows rfl
  case own b rows cap => cases hx; exact key rows rfl

theorem weak1_rel {x : AV} {v : Value} (h : AVRel M x v) : AVRel M x.weak1 v := by
  cases x <;> simp only [AV.weak1] <;> try exact h
  case full rows => exact .d _ _ (dat_rel (x := .full rows) rfl h)
  case own b rows cap => exact .d _ _ (dat_rel (x := .own b rows cap) rfl h)
theorem weakA_rel {x : AV} {v : Value} (h : AVRel M x v) : AVRel M x.weakA v := by
  cases x <;> simp only [AV.weakA] <;> try exact h
  case full rows => exact .d _ _ (dat_rel (x := .full rows) rfl h)
  case own b rows cap => exact .d _ _ (dat_rel (x := .own b rows cap) rfl h)
  case agg cells =>
    obtain ⟨cs, rfl, hl, h1⟩ := inv_agg h
    exact .agg _ cs (by simp [hl]) fun i a b => by simp only [List.getElem_map]; exact weak1_rel (h1 i (by simpa using a) b)
theorem weak_rel {x : AV} {v : Value} (h : AVRel M x v) : AVRel M x.weak v := by
  cases x <;> simp only [AV.weak] <;> try exact h
  case full rows => exact .d _ _ (dat_rel (x := .full rows) rfl h)
  case own b rows cap => exact .d _ _ (dat_rel (x := .own b rows cap) rfl h)
  case agg cells =>
    obtain ⟨cs, rfl, hl, h1⟩ := inv_agg h
    exact .agg _ cs (by simp [hl]) fun i a b => by simp only [List.getElem_map]; exact weak1_rel (h1 i (by simpa using a) b)
  case tup vs =>
    cases h with
    | tup _ cs hl h1 => exact .tup _ cs (by simp [hl]) fun i a b => by simp only [List.getElem_map]; exact weakA_rel (h1 i (by simpa using a) b)

theorem oneCell_of_sc {x : AV} {v : Value} (hx : x.sc = true) (h : AVRel M x v) : v.oneCell' = true := by
  cases h <;> simp only [AV.sc] at hx <;> try (cases hx; done)
  case d y h => cases h <;> rfl
  all_goals rfl
theorem cells_of_sc {x : AV} {v : Value} (hx : x.sc = true) (h : AVRel M x v) : x.cells = [x] ∧ v.cells = #[v] := by
  cases h <;> simp only [AV.sc] at hx <;> try (cases hx; done)
  case d y h => exact ⟨rfl, h.oneCell.1⟩
  all_goals exact ⟨rfl, rfl⟩
/-- A value's cells. -/
theorem cells_rel {x : AV} {v : Value} (h : AVRel M x v) (hne : x.cells ≠ []) : ARel M x.cells v.cells.toList := by
  by_cases hx : x.sc = true
  · obtain ⟨e1, e2⟩ := cells_of_sc hx h
    rw [e1, e2]
    exact .cons h (.nil _)
  · cases x <;> simp only [AV.sc] at hx <;> try (exact absurd trivial hx)
    case undef => exact absurd rfl hne
    case tup vs => exact absurd rfl hne
    case agg cells =>
      obtain ⟨cs, rfl, hl, h1⟩ := inv_agg h
      exact ⟨hl, h1⟩
end inv

/-! Operands. -/
section args
variable {D : Fr} {P : Program} {G : Glob} {M : Mem} {N : Nat} {x : X} {a : Act} {w : World}

theorem cVal_rel {v : Value} {y : AV} (h : cVal v = some y) : AVRel M y v := by
  unfold cVal at h
  split at h <;> cases h
  · exact .d _ _ (.bool _)
  · exact .d _ _ (.int _ _)
  · exact .d _ _ (.flt _ _)
  · exact .d _ _ (.str _)
  · exact .d _ _ .nilp
  · exact .fullE
  · exact .d _ _ .nilm
  · exact .d _ _ .nilf
  · exact .d _ _ .nili

theorem cArg_rel (hx : XRel D G M N x a w) {o : Operand} {g : Arg} (h : cArg o = some g) : AVRel M (g.ev G x.sl) (a.eval o) := by
  cases o with
  | tmp t => cases h; exact hx.s t
  | const v =>
    simp only [cArg, Option.map_eq_some_iff] at h
    obtain ⟨y, hy, rfl⟩ := h
    exact cVal_rel hy
  | global g' =>
    cases h
    simp only [Arg.ev, Act.eval]
    cases hg : G g' with
    | none => exact .undef _
    | some cells =>
      refine .elt cells g' 0 (fun o => (M g' o).getD undef) (fun o ho => ?_) (fun o ho => ?_)
      · obtain ⟨v, hv, _⟩ := hx.w.glob g' cells hg o ho
        simp [hv]
      · obtain ⟨v, hv, hd⟩ := hx.w.glob g' cells hg o ho
        simpa [hv] using hd
  | func f =>
    cases h
    exact .d _ _ (.fn f [] [] [] [] rfl rfl (fun i h => by simp at h) (fun i h => by simp at h))

theorem mapM_some_iff {α β : Type} {f : α → Option β} : ∀ {l : List α} {k : List β}, l.mapM f = some k → k.length = l.length ∧ ∀ i (h : i < l.length) (h' : i < k.length), f l[i] = some k[i]
  | [], k, h => by simp at h; subst h; exact ⟨rfl, fun i h => by simp at h⟩
  | x :: l, k, h => by
    simp only [List.mapM_cons, Option.pure_def, Option.bind_eq_bind, Option.bind_eq_some_iff, Option.some.injEq] at h
    obtain ⟨y, hy, k', hk, rfl⟩ := h
    obtain ⟨h1, h2⟩ := mapM_some_iff hk
    refine ⟨by simp [h1], fun i a b => ?_⟩
    cases i with
    | zero => exact hy
    | succ i => exact h2 i (by simpa using a) (by simpa using b)

theorem cArgs_rel (hx : XRel D G M N x a w) {xs : List Operand} {gs : List Arg} (h : xs.mapM cArg = some gs) :
    ARel M (gs.map fun (p : Arg) => p.ev G x.sl) (xs.map a.eval) := by
  obtain ⟨h1, h2⟩ := mapM_some_iff h
  exact ARel.map h1.symm fun i a b => cArg_rel hx (h2 i b a)
theorem cArgO_rel (hx : XRel D G M N x a w) {o : Option Operand} {g : Option Arg} (h : cArgO o = some g) :
    (o = none ∧ g = none) ∨ ∃ y p, o = some y ∧ g = some p ∧ AVRel M (p.ev G x.sl) (a.eval y) := by
  cases o with
  | none => cases h; exact .inl ⟨rfl, rfl⟩
  | some y =>
    simp only [cArgO, Option.map_eq_some_iff] at h
    obtain ⟨p, hp, rfl⟩ := h
    exact .inr ⟨y, p, rfl, rfl, cArg_rel hx hp⟩
end args

end Go.Pv
/- The operations that look at slots alone, by value and in the machine. No condition. -/
namespace Go.Pv

section
variable {D : Fr} {E : PE} {P : Program} {G : Glob} {M : Mem} {N : Nat} {x : X} {a : Act} {w : World} {o : Oper}

/-- The operation yields 'r', in memory that may be new. -/
def Gives (P : Program) (G : Glob) (M : Mem) (st : St) (a : Act) (w : World) (o : Oper) (r : AV) : Prop :=
  ∃ v w' M', (execOp a.eval o).run P w = .ok (.value v) w' ∧ AVRel M' r v ∧ WRel G M' st w' ∧ Frame st st M M' w w'
theorem Gives.same {st : St} {r : AV} {v : Value} (hW : WRel G M st w) (hr : (execOp a.eval o).run P w = .ok (.value v) w) (h : AVRel M r v) : Gives P G M st a w o r :=
  ⟨v, w, M, hr, h, hW, .refl _ _ _⟩

theorem sizeT_some {t : TypeId} {n : Nat} (h : sizeT P t = some n) : n ≠ 0 ∧ (∃ i, P.info? t = some i ∧ i.size = n) ∧ ∀ w, (sizeOf t).run P w = .ok n w := by
  unfold sizeT at h
  cases hi : P.info? t with
  | none => simp [hi] at h
  | some i =>
    simp only [hi, Option.map_some, Option.bind_some] at h
    split at h
    · cases h
    · cases h
      exact ⟨by assumption, ⟨i, rfl, rfl⟩, fun w => by simp [sizeOf, typeInfo, hi]⟩
theorem aggT_run {t : TypeId} {b : Bool} (h : aggT P t = some b) (w : World) : (isAgg t).run P w = .ok b w := by
  unfold aggT at h
  unfold isAgg
  split at h
  · cases h; rename_i hu; rw [Sem.run_bind, run_underlying hu w]; rfl
  · cases h; rename_i hu; rw [Sem.run_bind, run_underlying hu w]; rfl
  · cases h; rename_i d h1 h2 hu; rw [Sem.run_bind, run_underlying hu w]
    simp only [Result.andThen_ok]
    rfl
  · cases h

theorem add_mid (b o j : Nat) : (⟨b, o, none⟩ : Addr).add j = ⟨b, o + j, none⟩ := by unfold Addr.add; split <;> simp_all

theorem g_move {p : Operand} (hx : XRel D G M N x a w) (ho : o.op = .move p ∨ o.op = .assign p) {g : Arg} (hc : cArg p = some g) : Gives P G M x.m.st a w o (g.ev G x.sl) := by
  refine .same hx.w (v := a.eval p) ?_ (cArg_rel hx hc)
  rcases ho with ho | ho <;> simp [execOp, ho]

theorem g_pick {c p q : Operand} (hx : XRel D G M N x a w) (ho : o.op = .pick c p q) {gc gp gq : Arg} (hc : cArg c = some gc) (hp : cArg p = some gp) (hq : cArg q = some gq) {t : Bool}
    (h : gc.ev G x.sl = .d (.bool t)) : Gives P G M x.m.st a w o (if t = true then gp.ev G x.sl else gq.ev G x.sl) := by
  have h1 := cArg_rel hx hc
  rw [h] at h1
  have h2 := inv_bool h1
  refine .same hx.w (v := if t = true then a.eval p else a.eval q) (by simp [execOp, ho, h2, asBool]) ?_
  split
  · exact cArg_rel hx hp
  · exact cArg_rel hx hq

theorem rel_b2 (b : Bool) : AVRel M (b2 b) (.bool b) := .d _ _ (.bool b)
theorem rel_int (k : IntKind) (n : Int) : AVRel M (.d (.int k n)) (.int k n) := .d _ _ (.int k n)

theorem run_bin {op : BinOp} {t : TypeId} {X Y r : AV} {vx vy : Value} (h : binEv op X Y = some r) (hX : AVRel M X vx) (hY : AVRel M Y vy) :
    ∃ v, (binOp op t vx vy).run P w = .ok v w ∧ (∀ p q : Operand, (eqGuard op t p q vx vy).run P w = .ok () w) ∧ AVRel M r v := by
  unfold binEv at h
  split at h
  · rename_i k a' k' b'
    rw [inv_int hX, inv_int hY]
    have hg : ∀ p q : Operand, (eqGuard op t p q (.int k a') (.int k' b')).run P w = .ok () w := by
      intro p q
      unfold eqGuard
      split <;> rfl
    by_cases hs : op = .shl ∨ op = .shr
    · rw [if_pos hs] at h
      unfold shBin at h
      split at h
      · cases h
      · rename_i hb
        rcases hs with rfl | rfl <;> cases h <;> refine ⟨_, ?_, hg, rel_int _ _⟩ <;> simp [binOp, Op.shift, hb]
    · rw [if_neg hs] at h
      split at h
      · rename_i hk
        subst hk
        cases op <;> simp only [intBin] at h <;> (try (cases h; done)) <;> (try (simp at hs; done)) <;>
          (try (split at h <;> try (cases h; done))) <;> cases h <;>
          first
            | (refine ⟨_, ?_, hg, rel_int _ _⟩; simp [binOp, Op.intArith, Op.intDiv, Op.intBits, *]; done)
            | (refine ⟨_, ?_, hg, rel_b2 _⟩; simp [binOp, Op.intCmp]; done)
      · cases h
  · rename_i s u
    rw [inv_str hX, inv_str hY]
    have hg : ∀ p q : Operand, (eqGuard op t p q (.string s) (.string u)).run P w = .ok () w := by
      intro p q
      unfold eqGuard
      split <;> rfl
    cases op <;> simp only [strBin] at h <;> (try (cases h; done))
    case add =>
      split at h
      · rename_i hle
        cases h
        refine ⟨_, ?_, hg, .d _ _ (.str _)⟩
        simp [binOp, Op.stringOp]
        omega
      · cases h
    all_goals
      cases h
      refine ⟨_, ?_, hg, rel_b2 _⟩
      simp [binOp, Op.stringOp]
  · rename_i k p k' q
    rw [inv_flt hX, inv_flt hY]
    have hg : ∀ p' q' : Operand, (eqGuard op t p' q' (.float k p) (.float k' q)).run P w = .ok () w := by
      intro p' q'
      unfold eqGuard
      split <;> rfl
    split at h
    · rename_i hk
      subst hk
      cases op <;> simp only [fltBin] at h <;> (try (cases h; done)) <;>
        (try (simp only [Option.map_eq_some_iff] at h; obtain ⟨z, hz, rfl⟩ := h; refine ⟨_, ?_, hg, .d _ _ (.flt _ _)⟩; simp [binOp, Op.floatArith, hz]; done)) <;>
        (cases h; refine ⟨_, ?_, hg, rel_b2 _⟩; simp [binOp, Op.floatCmp])
    · cases h
  · cases h

theorem g_bin {op : BinOp} {t ty : TypeId} {p q : Operand} (hx : XRel D G M N x a w) (ho : o.op = .binOp op t p q ty) {gp gq : Arg} (hp : cArg p = some gp) (hq : cArg q = some gq) {r : AV}
    (h : binEv op (gp.ev G x.sl) (gq.ev G x.sl) = some r) : Gives P G M x.m.st a w o r := by
  obtain ⟨v, h1, h2, h3⟩ := run_bin (P := P) (t := t) (w := w) h (cArg_rel hx hp) (cArg_rel hx hq)
  exact .same hx.w (by simp [execOp, ho, h1, h2]) h3


def nilOf : Nat → Value
  | 0 => .pointer none
  | 1 => .slice none 0 0
  | 2 => .nilFunc
  | _ => .nilIface
def nilTy (d : TypeDesc) : Nat → Prop
  | 0 => ∃ e, d = .pointer e
  | 1 => ∃ e, d = .slice e
  | 2 => ∃ p r v, d = .func p r v
  | _ => ∃ m, d = .interface m
theorem isNilConst_spec {t : TypeId} {q : Operand} {kd : Nat} (h : isNilConst P t q = some kd) : q = .const (nilOf kd) ∧ kd ≤ 3 ∧ ∃ d, P.underlying t = some d ∧ nilTy d kd := by
  unfold isNilConst at h
  split at h <;> (try (cases h; done)) <;> split at h <;> cases h <;> rename_i hu
  · exact ⟨rfl, by omega, _, hu, _, rfl⟩
  · exact ⟨rfl, by omega, _, hu, _, rfl⟩
  · exact ⟨rfl, by omega, _, hu, _, _, _, rfl⟩
  · exact ⟨rfl, by omega, _, hu, _, rfl⟩

theorem run_nilEq {t : TypeId} {d : TypeDesc} (hu : P.underlying t = some d) {kd : Nat} (hk : kd ≤ 3) (hd : nilTy d kd) {X : AV} {v : Value} (hX : AVRel M X v) {b : Bool} (h : nilEv kd X = some b) (D : Nat) :
    (Op.equalIn (D + 1) t v (nilOf kd)).run P w = .ok b w := by
  have hsl : ∀ rows : List (List Dat), X.rows? = some rows → rows ≠ [] → ∃ a n c, v = .slice (some a) n c := by
    intro rows hr hne
    obtain ⟨A, cap, rfl, _, k⟩ := inv_rows hr hX
    rcases k with k | ⟨b, off, size, vs, rfl, _⟩
    · exact absurd k hne
    · exact ⟨_, _, _, rfl⟩
  unfold nilEv at h
  split at h <;> (try (cases h; done)) <;> cases h
  · obtain ⟨e, rfl⟩ := hd; cases hX with | d _ _ hX => cases hX; simp [Op.equalIn, run_underlying hu, nilOf]
  · obtain ⟨e, rfl⟩ := hd; rw [inv_ptr hX]; simp [Op.equalIn, run_underlying hu, nilOf]
  · obtain ⟨e, rfl⟩ := hd; cases hX; simp [Op.equalIn, run_underlying hu, nilOf]
  · obtain ⟨e, rfl⟩ := hd; obtain ⟨_, _, _, rfl⟩ := hsl _ rfl (by simp); simp [Op.equalIn, run_underlying hu, nilOf]
  · obtain ⟨e, rfl⟩ := hd; obtain ⟨_, _, _, rfl⟩ := hsl _ rfl (by simp); simp [Op.equalIn, run_underlying hu, nilOf]
  · obtain ⟨e, rfl⟩ := hd; cases hX; simp [Op.equalIn, run_underlying hu, nilOf]
  · obtain ⟨e, rfl⟩ := hd; rw [(inv_bsl hX).1]; simp [Op.equalIn, run_underlying hu, nilOf]
  · obtain ⟨_, _, _, rfl⟩ := hd; cases hX with | d _ _ hX => cases hX; simp [Op.equalIn, run_underlying hu, nilOf]
  · obtain ⟨_, _, _, rfl⟩ := hd; cases hX with | d _ _ hX => cases hX; simp [Op.equalIn, run_underlying hu, nilOf]
  · obtain ⟨_, rfl⟩ := hd; cases hX with | d _ _ hX => cases hX; simp [Op.equalIn, run_underlying hu, nilOf]
  · obtain ⟨_, rfl⟩ := hd; cases hX with | d _ _ hX => cases hX; simp [Op.equalIn, run_underlying hu, nilOf]
  · obtain ⟨_, rfl⟩ := hd; cases hX with | d _ _ hX => cases hX; simp [Op.equalIn, run_underlying hu, nilOf]

/-- What is held against nil: no number, no text. -/
theorem nil_form {kd : Nat} {X : AV} {v : Value} (hX : AVRel M X v) {b : Bool} (h : nilEv kd X = some b) :
    (∃ q, v = .pointer q) ∨ (∃ a n c, v = .slice a n c) ∨ v = .nilFunc ∨ (∃ f c d, v = .func f c d) ∨ v = .nilIface ∨ ∃ t u, v = .iface t u := by
  have hsl : ∀ rows : List (List Dat), X.rows? = some rows → ∃ a n c, v = .slice a n c := by
    intro rows hr
    obtain ⟨A, cap, rfl, _, k⟩ := inv_rows hr hX
    exact ⟨_, _, _, rfl⟩
  unfold nilEv at h
  split at h <;> (try (cases h; done))
  · cases hX with | d _ _ hX => cases hX; exact .inl ⟨_, rfl⟩
  · exact .inl ⟨_, inv_ptr hX⟩
  · cases hX; exact .inl ⟨_, rfl⟩
  · exact .inr (.inl (hsl _ rfl))
  · exact .inr (.inl (hsl _ rfl))
  · exact .inr (.inl (hsl _ rfl))
  · exact .inr (.inl ⟨_, _, _, (inv_bsl hX).1⟩)
  · cases hX with | d _ _ hX => cases hX; exact .inr (.inr (.inl rfl))
  · cases hX with | d _ _ hX => cases hX; exact .inr (.inr (.inr (.inl ⟨_, _, _, rfl⟩)))
  · cases hX with | d _ _ hX => cases hX; exact .inr (.inr (.inr (.inr (.inl rfl))))
  · cases hX with | d _ _ hX => cases hX; exact .inr (.inr (.inr (.inr (.inr ⟨_, _, rfl⟩))))
  · cases hX with | d _ _ hX => cases hX; exact .inr (.inr (.inr (.inr (.inr ⟨_, _, rfl⟩))))

theorem g_isNil {op : BinOp} {t ty : TypeId} {p q : Operand} (hx : XRel D G M N x a w) (ho : o.op = .binOp op t p q ty) {kd : Nat} (hk : isNilConst P t q = some kd) (hop : op = .eql ∨ op = .neq)
    {gp : Arg} (hp : cArg p = some gp) {b : Bool} (h : nilEv kd (gp.ev G x.sl) = some b) : Gives P G M x.m.st a w o (b2 (if (op == .neq) = true then !b else b)) := by
  have h1 := cArg_rel hx hp
  obtain ⟨rfl, hk3, d, hu, hd⟩ := isNilConst_spec hk
  have he := run_nilEq (P := P) (w := w) hu hk3 hd h1 h 9999
  have hf := nil_form h1 h
  have hq : a.eval (.const (nilOf kd)) = nilOf kd := rfl
  have hg : (eqGuard op t p (.const (nilOf kd)) (a.eval p) (nilOf kd)).run P w = .ok () w := by
    generalize a.eval p = v at hf
    match kd, hk3 with
    | 0, _ | 1, _ | 2, _ | 3, _ => rcases hf with ⟨q, rfl⟩ | ⟨a', n, c, rfl⟩ | rfl | ⟨f, c, d, rfl⟩ | rfl | ⟨t', u, rfl⟩ <;> rcases hop with rfl | rfl <;> first | rfl | simp [eqGuard, nilOf]
  have hb : binOp .eql t (a.eval p) (nilOf kd) = (do pure (.bool (← Op.equal t (a.eval p) (nilOf kd)))) ∧ binOp .neq t (a.eval p) (nilOf kd) = (do pure (.bool (!(← Op.equal t (a.eval p) (nilOf kd))))) := by
    generalize a.eval p = v at hf
    match kd, hk3 with
    | 0, _ | 1, _ | 2, _ | 3, _ => rcases hf with ⟨q, rfl⟩ | ⟨a', n, c, rfl⟩ | rfl | ⟨f, c, d, rfl⟩ | rfl | ⟨t', u, rfl⟩ <;> exact ⟨rfl, rfl⟩
  have he' : (Op.equal t (a.eval p) (nilOf kd)).run P w = .ok b w := he
  refine .same hx.w (v := .bool (if (op == .neq) = true then !b else b)) ?_ (rel_b2 _)
  rcases hop with rfl | rfl
  · simp [execOp, ho, hq, hg, hb.1, he']
  · simp [execOp, ho, hq, hg, hb.2, he']

/-- Of a slice without elements nobody knows whether it is nil. -/
theorem g_isNilE {op : BinOp} {t ty : TypeId} {p q : Operand} (hx : XRel D G M N x a w) (ho : o.op = .binOp op t p q ty) (hk : isNilConst P t q = some 1) (hop : op = .eql ∨ op = .neq)
    {gp : Arg} (hp : cArg p = some gp) (h : gp.ev G x.sl = .d (.sl [])) : ∃ b : Bool, Gives P G M x.m.st a w o (b2 b) := by
  have h1 := cArg_rel hx hp
  rw [h] at h1
  obtain ⟨rfl, _, d, hu, hd⟩ := isNilConst_spec hk
  obtain ⟨e, rfl⟩ := hd
  obtain ⟨A, n, c, hv⟩ : ∃ (A : Option Addr) (n c : Nat), a.eval p = .slice A n c := by
    generalize a.eval p = v at h1
    cases h1 with
    | d _ _ h1 => cases h1 <;> exact ⟨_, _, _, rfl⟩
  have gen : ∀ D, (Op.equalIn (D + 1) t (.slice A n c) (nilOf 1)).run P w = .ok A.isNone w := by
    intro D
    cases A <;> simp [Op.equalIn, run_underlying hu, nilOf]
  have he : (Op.equal t (a.eval p) (nilOf 1)).run P w = .ok A.isNone w := by
    rw [hv]
    exact gen 9999
  have hq : a.eval (.const (nilOf 1)) = nilOf 1 := rfl
  have hg : (eqGuard op t p (.const (nilOf 1)) (a.eval p) (nilOf 1)).run P w = .ok () w := by
    rw [hv]
    rcases hop with rfl | rfl <;> first | rfl | simp [eqGuard, nilOf]
  have hb : binOp .eql t (a.eval p) (nilOf 1) = (do pure (.bool (← Op.equal t (a.eval p) (nilOf 1)))) ∧ binOp .neq t (a.eval p) (nilOf 1) = (do pure (.bool (!(← Op.equal t (a.eval p) (nilOf 1))))) := by
    rw [hv]
    exact ⟨rfl, rfl⟩
  refine ⟨if (op == .neq) = true then !A.isNone else A.isNone, .same hx.w (v := .bool (if (op == .neq) = true then !A.isNone else A.isNone)) ?_ (rel_b2 _)⟩
  rcases hop with rfl | rfl
  · simp [execOp, ho, hq, hg, hb.1, he]
  · simp [execOp, ho, hq, hg, hb.2, he]

theorem g_eqB {op : BinOp} {t ty : TypeId} {p q : Operand} (hx : XRel D G M N x a w) (ho : o.op = .binOp op t p q ty) (hu : P.underlying t = some .bool) (hop : op = .eql ∨ op = .neq)
    {gp gq : Arg} (hp : cArg p = some gp) (hq : cArg q = some gq) {b c : Bool} (hb : gp.ev G x.sl = .d (.bool b)) (hc : gq.ev G x.sl = .d (.bool c)) :
    Gives P G M x.m.st a w o (b2 (if (op == .neq) = true then !(b == c) else b == c)) := by
  have h1 := cArg_rel hx hp
  have h2 := cArg_rel hx hq
  rw [hb] at h1
  rw [hc] at h2
  have e1 := inv_bool h1
  have e2 := inv_bool h2
  have he0 : ∀ D, (Op.equalIn (D + 1) t (.bool b) (.bool c)).run P w = .ok (b == c) w := fun D => by simp [Op.equalIn, run_underlying hu]
  have he : (Op.equal t (.bool b) (.bool c)).run P w = .ok (b == c) w := he0 9999
  refine .same hx.w (v := .bool (if (op == .neq) = true then !(b == c) else b == c)) ?_ (rel_b2 _)
  rcases hop with rfl | rfl
  · simp [execOp, ho, e1, e2, eqGuard, binOp, he]
  · simp [execOp, ho, e1, e2, eqGuard, binOp, he]

theorem kindT_plain {e : TypeId} {k : Nat} (h : kindT P e = some k) : P.plainKey e = true := by
  unfold kindT at h
  unfold Program.plainKey
  split at h <;> (try (cases h; done)) <;> simp_all
/-- One cell against another one. -/
theorem eqc_run {e : TypeId} {k d : Nat} {cx cy : List AV} {xs ys : List Value} (hX : ARel M cx xs) (hY : ARel M cy ys) (he : kindT P e = some k) {ks : List Nat} {o : Nat} {r : Bool} (h : eqCells (k :: ks) (cx.drop o) (cy.drop o) = some r) :
    ∃ a b r1 r2, (part e xs.toArray o).run P w = .ok a w ∧ (part e ys.toArray o).run P w = .ok b w ∧ (Op.equalIn (d + 1) e a b).run P w = .ok r1 w ∧ eqCells ks (cx.drop (o + 1)) (cy.drop (o + 1)) = some r2 ∧ r = (r1 && r2) := by
  have hp := kindT_plain he
  have get : ∀ {cs : List AV} {vs : List Value} {z : AV} {zs : List AV}, ARel M cs vs → cs.drop o = z :: zs → ∃ v, vs.toArray[o]? = some v ∧ AVRel M z v ∧ zs = cs.drop (o + 1) := by
    intro cs vs z zs hr hd
    have ho : o < cs.length := by
      by_cases ho : o < cs.length
      · exact ho
      · rw [List.drop_eq_nil_of_le (by omega)] at hd; cases hd
    rw [List.drop_eq_getElem_cons ho] at hd
    injection hd with h1 h2
    subst h1
    have ho' : o < vs.length := by rw [hr.1]; exact ho
    exact ⟨vs[o], by simp [ho'], hr.2 o ho ho', h2.symm⟩
  unfold eqCells at h
  split at h <;> (try (cases h; done))
  · rename_i h1 h2 h3; cases h1
  rename_i q qs x xs' y ys' hq hx hy
  injection hq with e1 e2
  subst e1; subst e2
  obtain ⟨v, hv, rv, rfl⟩ := get hX hx
  obtain ⟨u, hu, ru, rfl⟩ := get hY hy
  refine ⟨v, u, ?_⟩
  have pv := run_part_plain w hp hv
  have pu := run_part_plain w hp hu
  unfold kindT at he
  split at h <;> (try (cases h; done))
  · rename_i kk a kk' b
    split at h <;> (try (cases h; done))
    rename_i hk
    subst hk
    simp only [Option.map_eq_some_iff] at h
    obtain ⟨r2, h2, rfl⟩ := h
    obtain rfl := inv_int rv
    obtain rfl := inv_int ru
    split at he <;> cases he
    rename_i q hun
    exact ⟨_, r2, pv, pu, run_equalIn_int w d e _ _ _ _ hun, h2, rfl⟩
  · simp only [Option.map_eq_some_iff] at h
    obtain ⟨r2, h2, rfl⟩ := h
    obtain rfl := inv_bool rv
    obtain rfl := inv_bool ru
    split at he <;> cases he
    rename_i hun
    exact ⟨_, r2, pv, pu, run_equalIn_bool w d e _ _ hun, h2, rfl⟩
  · simp only [Option.map_eq_some_iff] at h
    obtain ⟨r2, h2, rfl⟩ := h
    obtain rfl := inv_str rv
    obtain rfl := inv_str ru
    split at he <;> cases he
    rename_i hun
    exact ⟨_, r2, pv, pu, run_equalIn_string w d e _ _ hun, h2, rfl⟩
theorem eqCells_nil {x y : List AV} {r : Bool} (h : eqCells [] x y = some r) : r = true := by
  cases x <;> cases y <;> simp [eqCells] at h
  exact h
theorem eqf_run {d : Nat} {cx cy : List AV} {xs ys : List Value} (hX : ARel M cx xs) (hY : ARel M cy ys) : ∀ (fs : List Field) (o : Nat) (ks : List Nat) (r : Bool), flatF P o fs = some ks → eqCells ks (cx.drop o) (cy.drop o) = some r →
    (Op.eqFields (d + 1) xs.toArray ys.toArray fs).run P w = .ok r w
  | [], o, ks, r, hf, h => by
    simp only [flatF, Option.some.injEq] at hf
    subst hf
    obtain rfl := eqCells_nil h
    rfl
  | f :: fs, o, ks, r, hf, h => by
    simp only [flatF] at hf
    split at hf <;> (try (cases hf; done))
    rename_i hc
    split at hf <;> cases hf
    rename_i k l hk hl
    obtain ⟨a, b, r1, r2, p1, p2, p3, h2, rfl⟩ := eqc_run (w := w) (d := d) hX hY hk h
    have ih := eqf_run (d := d) hX hY fs (o + 1) l r2 hl h2
    rw [← hc.1] at p1 p2
    simp only [Op.eqFields, hc.2, ne_eq, not_false_eq_true, if_true, Sem.run_bind, p1, p2, p3, Result.andThen_ok]
    cases r1
    · simp
    · simpa using ih
theorem eqi_run {d : Nat} {e : TypeId} {k : Nat} (hk : kindT P e = some k) {cx cy : List AV} {xs ys : List Value} (hX : ARel M cx xs) (hY : ARel M cy ys) : ∀ (n o : Nat) (r : Bool), eqCells (List.replicate n k) (cx.drop o) (cy.drop o) = some r →
    (Op.eqItems (d + 1) e 1 xs.toArray ys.toArray (List.range' o n)).run P w = .ok r w
  | 0, o, r, h => by
    obtain rfl := eqCells_nil h
    rfl
  | n + 1, o, r, h => by
    rw [List.replicate_succ] at h
    obtain ⟨a, b, r1, r2, p1, p2, p3, h2, rfl⟩ := eqc_run (w := w) (d := d) hX hY hk h
    have ih := eqi_run (d := d) hk hX hY n (o + 1) r2 h2
    rw [List.range'_succ]
    simp only [Op.eqItems, Nat.mul_one, Sem.run_bind, p1, p2, p3, Result.andThen_ok]
    cases r1
    · simp
    · simpa using ih
theorem g_eqAgg {op : BinOp} {t ty : TypeId} {p q : Operand} (hx : XRel D G M N x a w) (ho : o.op = .binOp op t p q ty) (hop : op = .eql ∨ op = .neq) {ks : List Nat} (hpl : eqPlan P t = some ks)
    {gp gq : Arg} (hp : cArg p = some gp) (hq : cArg q = some gq) {xs ys : List AV} (hb : gp.ev G x.sl = .agg xs) (hc : gq.ev G x.sl = .agg ys) {r : Bool} (h : eqCells ks xs ys = some r) :
    Gives P G M x.m.st a w o (b2 (if (op == .neq) = true then !r else r)) := by
  have h1 := cArg_rel hx hp
  have h2 := cArg_rel hx hq
  rw [hb] at h1
  rw [hc] at h2
  obtain ⟨us, e1, r1⟩ := inv_agg h1
  obtain ⟨vs, e2, r2⟩ := inv_agg h2
  unfold eqPlan at hpl
  split at hpl <;> (try (cases hpl; done))
  rename_i hg
  have hg1 : P.eqGuardType P.depth t = false := by cases e : P.eqGuardType P.depth t with | false => rfl | true => exact absurd (.inl e) hg
  have hg2 : P.stoodInHeld t = false := by cases e : P.stoodInHeld t with | false => rfl | true => exact absurd (.inr e) hg
  have he : (Op.equalIn (9999 + 1) t (.agg us.toArray) (.agg vs.toArray)).run P w = .ok r w := by
    split at hpl
    · rename_i fs hu
      have hfs : P.fieldsOf t = fs := by simp [Program.fieldsOf, hu]
      rw [run_equalIn_struct w 9999 t _ _ (by rw [hfs]; exact hu) hg2, hfs]
      exact eqf_run (d := 9998) r1 r2 fs.toList 0 ks r hpl (by simpa using h)
    · rename_i n e hu
      split at hpl <;> (try (cases hpl; done))
      rename_i hce
      simp only [Option.map_eq_some_iff] at hpl
      obtain ⟨k, hk, rfl⟩ := hpl
      obtain ⟨i, hi⟩ : ∃ i, P.info? e = some i := by
        unfold kindT at hk
        split at hk <;> (try (cases hk; done)) <;> exact info_of_underlying (by assumption)
      rw [run_equalIn_array w 9999 _ _ hu hi, hce, List.range_eq_range']
      exact eqi_run (d := 9998) hk r1 r2 n 0 r (by simpa using h)
    · cases hpl
  refine .same hx.w (v := .bool (if (op == .neq) = true then !r else r)) ?_ (rel_b2 _)
  have hgd := run_eqGuard_agg (P := P) w op t p q us.toArray vs.toArray hg1
  rcases hop with rfl | rfl
  · simp only [execOp, ho, e1, e2]
    simp [hgd, run_eql_struct, he]
  · simp only [execOp, ho, e1, e2]
    simp [hgd, run_neq_struct, he]

theorem g_un {op : UnOp} {t : TypeId} {p : Operand} (hx : XRel D G M N x a w) (ho : o.op = .unOp op t p) {po : POp} (hc : cUn op p = some po) {r : AV} (h : ev G x.sl po = some r) :
    Gives P G M x.m.st a w o r := by
  unfold cUn at hc
  split at hc <;> (try (cases hc; done)) <;> simp only [Option.map_eq_some_iff] at hc <;> obtain ⟨g, hg, rfl⟩ := hc <;> simp only [ev] at h <;> have h1 := cArg_rel hx hg
  · split at h <;> cases h
    rename_i b e
    rw [e] at h1
    exact .same hx.w (v := .bool !b) (by simp [execOp, ho, inv_bool h1, Op.unary]) (rel_b2 _)
  · split at h <;> cases h
    · rename_i k n e
      rw [e] at h1
      exact .same hx.w (v := .int k (k.wrap (0 - n))) (by simp [execOp, ho, inv_int h1, Op.unary, Op.intArith]) (rel_int _ _)
    · rename_i k n e
      rw [e] at h1
      exact .same hx.w (v := .float k (Op.negFloat k n)) (by simp [execOp, ho, inv_flt h1, Op.unary]) (.d _ _ (.flt _ _))
  · split at h <;> cases h
    rename_i k n e
    rw [e] at h1
    exact .same hx.w (v := .int k (k.wrap (BitVec.ofInt k.bits (if k.signed then -1 else k.max) ^^^ BitVec.ofInt k.bits n).toNat)) (by simp [execOp, ho, inv_int h1, Op.unary, Op.intBits]) (rel_int _ _)

theorem g_nilchk {p : Operand} (hx : XRel D G M N x a w) (ho : o.op = .nilCheck p) {g : Arg} (hg : cArg p = some g) {r : AV} (h : ev G x.sl (.nilchk g) = some r) : Gives P G M x.m.st a w o r := by
  have h1 := cArg_rel hx hg
  simp only [ev] at h
  split at h <;> cases h <;> rename_i e <;> rw [e] at h1
  · exact .same hx.w (v := a.eval p) (by simp [execOp, ho, inv_ptr h1]) h1
  · refine .same hx.w (v := a.eval p) ?_ h1
    generalize hv : a.eval p = v at h1
    cases h1
    simp [execOp, ho, hv]
  · refine .same hx.w (v := a.eval p) ?_ h1
    generalize hv : a.eval p = v at h1
    cases h1 with | d _ _ h1 => cases h1; simp [execOp, ho, hv]

theorem g_faddr {t : TypeId} {p : Operand} {f : Nat} (hx : XRel D G M N x a w) (ho : o.op = .fieldAddr t p f) {po : POp} (hc : cFieldAddr P t p f = some po) {r : AV} (h : ev G x.sl po = some r) :
    Gives P G M x.m.st a w o r := by
  unfold cFieldAddr at hc
  split at hc <;> (try (cases hc; done))
  rename_i fs hu
  split at hc <;> (try (cases hc; done))
  rename_i fd hf
  split at hc <;> (try (cases hc; done))
  rename_i sz hs
  simp only [Option.map_eq_some_iff] at hc
  obtain ⟨g, hg, rfl⟩ := hc
  obtain ⟨h0, _, hsz⟩ := sizeT_some hs
  have h1 := cArg_rel hx hg
  have run : ∀ b off, a.eval p = .pointer (some ⟨b, off, none⟩) → (execOp a.eval o).run P w = .ok (.value (.pointer (some ⟨b, off + fd.offset, none⟩))) w := by
    intro b off e
    simp [execOp, ho, e, Instr.fieldAt, run_underlying hu, hf, Instr.sureAddr, fieldPlace, hsz, h0, add_mid]
  simp only [ev] at h
  split at h <;> cases h <;> rename_i e <;> rw [e] at h1
  · exact .same hx.w (run _ _ (inv_ptr h1)) (.d _ _ (.ptr _ _))
  · generalize hv : a.eval p = v at h1
    cases h1 with
    | elt cells b off vs hm hr =>
      refine .same hx.w (run _ _ hv) (.elt _ _ _ (fun o => vs (fd.offset + o)) (fun o ho => ?_) (fun o ho => ?_))
      · simp at ho
        rw [Nat.add_assoc]; exact hm _ (by omega)
      · simp only [List.getElem_drop]
        exact hr _ (by simp at ho; omega)

end
end Go.Pv
