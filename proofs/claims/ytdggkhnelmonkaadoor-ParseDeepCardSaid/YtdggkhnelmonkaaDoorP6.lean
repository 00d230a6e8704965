/- What a call, by value, says of the machine's call. No condition. -/
import Derived.Test.YtdggkhnelmonkaaDoorP5
namespace Go.Pv

/-- Lists of abstract values and of values. -/
def ARel (M : Mem) (l : List AV) (vs : List Value) : Prop := vs.length = l.length ∧ ∀ i (h : i < l.length) (h' : i < vs.length), AVRel M l[i] vs[i]

theorem ARel.nil (M : Mem) : ARel M [] [] := ⟨rfl, fun i h => by simp at h⟩
theorem ARel.cons {M : Mem} {x : AV} {v : Value} {l : List AV} {vs : List Value} (h : AVRel M x v) (k : ARel M l vs) : ARel M (x :: l) (v :: vs) := by
  refine ⟨by simp [k.1], fun i h1 h2 => ?_⟩
  cases i with
  | zero => exact h
  | succ i => exact k.2 i (by simpa using h1) (by simpa using h2)
theorem ARel.mono {M M' : Mem} (hm : MLe M M') {l : List AV} {vs : List Value} (h : ARel M l vs) : ARel M' l vs := ⟨h.1, fun i h1 h2 => (h.2 i h1 h2).mono hm⟩
theorem ARel.append {M : Mem} {l k : List AV} {vs us : List Value} (h : ARel M l vs) (g : ARel M k us) : ARel M (l ++ k) (vs ++ us) := by
  refine ⟨by simp [h.1, g.1], fun i h1 h2 => ?_⟩
  by_cases hi : i < l.length
  · rw [List.getElem_append_left hi, List.getElem_append_left (by rw [h.1]; exact hi)]
    exact h.2 i hi _
  · have hi' : l.length ≤ i := by omega
    rw [List.getElem_append_right hi', List.getElem_append_right (by rw [h.1]; exact hi')]
    have : i - vs.length = i - l.length := by rw [h.1]
    simp only [this]
    have e1 := h.1; have e2 := g.1; simp at h1 h2
    exact g.2 (i - l.length) (by omega) (by omega)
theorem ARel.take {M : Mem} {l : List AV} {vs : List Value} (h : ARel M l vs) (n : Nat) : ARel M (l.take n) (vs.take n) := by
  refine ⟨by simp [h.1], fun i h1 h2 => ?_⟩
  simp only [List.getElem_take]
  exact h.2 i (by simp at h1; omega) (by simp at h2; omega)
theorem ARel.drop {M : Mem} {l : List AV} {vs : List Value} (h : ARel M l vs) (n : Nat) : ARel M (l.drop n) (vs.drop n) := by
  refine ⟨by simp [h.1], fun i h1 h2 => ?_⟩
  simp only [List.getElem_drop]
  exact h.2 (n + i) (by simp at h1; omega) (by simp at h2; omega)
theorem ARel.map {M : Mem} {α β : Type} {f : α → AV} {g : β → Value} : ∀ {l : List α} {k : List β}, k.length = l.length →
    (∀ i (h : i < l.length) (h' : i < k.length), AVRel M (f l[i]) (g k[i])) → ARel M (l.map f) (k.map g) := by
  intro l k hl h
  refine ⟨by simp [hl], fun i h1 h2 => ?_⟩
  simp only [List.getElem_map]
  exact h i (by simpa using h1) (by simpa using h2)

/-- What a panic that leaves a call may bring: its value, and the state then. -/
structure PE where
  E : AV → St → Prop
  up : ∀ r st b cells, st.fresh b → E r st → E r (st.setBox b cells)
/-- None. -/
def PE.no : PE := ⟨fun _ _ => False, fun _ _ _ _ _ h => h⟩
/-- It ends by a panic. -/
def PPan (G : Glob) (E : PE) (st : St) (M : Mem) (w : World) (e : Ending) (w' : World) : Prop :=
  ∃ v r st' M', e = .panicked [{ v := v, recovered := false }] ∧ WRel G M' st' w' ∧ AVRel M' r v ∧ Frame st st' M M' w w' ∧ E.E r st'

/-- A CALL, BY VALUE: in whatever world that the state stands for, at whatever values of these arguments. (The last arm: a panic in the text itself.) -/
def PCallsE (P : Program) (G : Glob) (E : PE) : CallsP := fun f as st R =>
  (entered P f = true ∧ ∀ (M : Mem) (w : World) (vals : Array Value), WRel G M st w → ARel M as vals.toList →
    Calls P f vals w fun e w' => (∃ v r st' M', e = .returned v ∧ WRel G M' st' w' ∧ AVRel M' r v ∧ Frame st st' M M' w w' ∧ R r st') ∨ PPan G E st M w e w') ∨
  (f = P.funcs.size ∧ (∀ r st', ¬ R r st') ∧ ∃ v, as = [v] ∧ E.E v st)
/-- One that ends by no panic. -/
abbrev PCalls (P : Program) (G : Glob) : CallsP := PCallsE P G PE.no
theorem PCalls.ends {P : Program} {G : Glob} {f : FuncId} {as : List AV} {st : St} {R : AV → St → Prop} (h : PCalls P G f as st R) : entered P f = true ∧ ∀ (M : Mem) (w : World) (vals : Array Value), WRel G M st w → ARel M as vals.toList →
    Calls P f vals w fun e w' => ∃ v r st' M', e = .returned v ∧ WRel G M' st' w' ∧ AVRel M' r v ∧ Frame st st' M M' w w' ∧ R r st' := by
  rcases h with ⟨h1, h2⟩ | ⟨_, _, _, _, h⟩
  · refine ⟨h1, fun M w vals hW hA => (h2 M w vals hW hA).mono ?_⟩
    rintro e w' (h | ⟨_, _, _, _, _, _, _, _, h⟩)
    · exact h
    · exact h.elim
  · exact h.elim
theorem PCallsE.of {P : Program} {G : Glob} {E : PE} {f : FuncId} {as : List AV} {st : St} {R : AV → St → Prop} (h1 : entered P f = true) (h2 : ∀ (M : Mem) (w : World) (vals : Array Value), WRel G M st w → ARel M as vals.toList →
    Calls P f vals w fun e w' => ∃ v r st' M', e = .returned v ∧ WRel G M' st' w' ∧ AVRel M' r v ∧ Frame st st' M M' w w' ∧ R r st') : PCallsE P G E f as st R :=
  .inl ⟨h1, fun M w vals hW hA => (h2 M w vals hW hA).mono fun _ _ h => .inl h⟩
/-- A call that ends by no panic, among those that may. -/
theorem PCalls.may {P : Program} {G : Glob} (E : PE) {f : FuncId} {as : List AV} {st : St} {R : AV → St → Prop} (h : PCalls P G f as st R) : PCallsE P G E f as st R := .of h.ends.1 h.ends.2

theorem WRel.dropNew {G : Glob} {M : Mem} {st : St} {w : World} {b : Nat} {cells : List AV} (h : WRel G M (st.setBox b cells) w) (hb : st.fresh b) : WRel G M st w where
  box := fun c l hc => h.box c l (St.box_fresh hb cells hc)
  boxM := fun c l hc => h.boxM c l (St.box_fresh hb cells hc)
  boxT := fun c l hc => h.boxT c l (St.box_fresh hb cells hc)
  tok := h.tok
  imm := h.imm
  glob := h.glob

/-- Beside one variable more. -/
theorem pcalls_frame0 (P : Program) (G : Glob) (E : PE) (f : FuncId) (as : List AV) (st : St) (R : AV → St → Prop) (b : Nat) (cells : List AV) (h0 : PCallsE P G E f as st R) (hb : st.fresh b) :
    PCallsE P G E f as (st.setBox b cells) (fun r st'' => ∃ st', R r st' ∧ st'.fresh b ∧ st'' = st'.setBox b cells) := by
  rcases h0 with ⟨hent, h⟩ | ⟨hf, hno, v, rfl, hv⟩
  rotate_left
  · exact .inr ⟨hf, fun r st'' ⟨st', k, _⟩ => hno r st' k, v, rfl, E.up _ _ _ _ hb hv⟩
  refine .inl ⟨hent, fun M w vals hW hA => ?_⟩
  have hself : (st.setBox b cells).box b = some cells := by simp
  have hlt : b < w.heap.size := hW.box_lt hself
  have both : ∀ (st' : St) (M' : Mem) (w' : World), WRel G M' st' w' → Frame st st' M M' w w' → WRel G M' (st'.setBox b cells) w' ∧ Frame (st.setBox b cells) (st'.setBox b cells) M M' w w' := by
    intro st' M' w' hW' hF
    refine ⟨?_, ?_⟩
    · obtain ⟨t, cs, h1, h2, h3⟩ := hW.box b cells hself
      refine ⟨fun c l hc => ?_, fun c l hc o => ?_, fun c l hc => ?_, hW'.tok, hW'.imm, hW'.glob⟩
      · by_cases hcb : c = b
        · subst hcb
          simp at hc; subst hc
          exact ⟨t, cs, by rw [hF.blk c hlt hb.1 hb.2]; exact h1, h2, fun i a b => (h3 i a b).mono hF.mle⟩
        · rw [St.box_fresh' cells hcb] at hc
          exact hW'.box c l hc
      · by_cases hcb : c = b
        · subst hcb
          rw [hF.mem c o hlt hb.2 hb.1]
          exact hW.boxM c _ hself o
        · rw [St.box_fresh' cells hcb] at hc
          exact hW'.boxM c l hc o
      · by_cases hcb : c = b
        · subst hcb; exact (hF.domB _ hlt hb.1 hb.2).2
        · rw [St.box_fresh' cells hcb] at hc
          exact hW'.boxT c l hc
    · have key : ∀ (s : St) (c : Nat), (s.setBox b cells).box c = none → s.box c = none ∧ c ≠ b := by
        intro s c hc
        by_cases hcb : c = b
        · subst hcb; simp at hc
        · exact ⟨by rwa [St.box_fresh' cells hcb] at hc, hcb⟩
      exact ⟨hF.os, hF.tape, hF.output, hF.size, fun c hc h1 h2 => hF.blk c hc (key _ c h1).1 h2, fun c o hc h1 h2 => hF.mem c o hc h1 (key _ c h2).1, hF.mle, fun c hc h1 h2 => by
        obtain ⟨k1, k2⟩ := key _ c h1
        obtain ⟨d1, d2⟩ := hF.domB c hc k1 h2
        exact ⟨by rw [St.box_fresh' cells k2]; exact d1, d2⟩⟩
  refine (h M w vals (hW.dropNew hb) hA).mono ?_
  rintro e w' (⟨v, r, st', M', he, hW', hr, hF, hR⟩ | ⟨v, r, st', M', he, hW', hr, hF, hR⟩)
  · exact .inl ⟨v, r, _, M', he, (both _ _ _ hW' hF).1, hr, (both _ _ _ hW' hF).2, st', hR, hF.domB b hlt hb.1 hb.2, rfl⟩
  · exact .inr ⟨v, r, _, M', he, (both _ _ _ hW' hF).1, hr, (both _ _ _ hW' hF).2, E.up _ _ _ _ (hF.domB b hlt hb.1 hb.2) hR⟩
theorem pcalls_mono {P : Program} {G : Glob} {E : PE} {f : FuncId} {as : List AV} {st : St} {R R' : AV → St → Prop} (h : PCallsE P G E f as st R) (hR : ∀ r st', R r st' → R' r st') (hR' : ∀ r st', R' r st' → ∃ r st', R r st') : PCallsE P G E f as st R' := by
  rcases h with h | ⟨hf, hno, h⟩
  · exact .inl ⟨h.1, fun M w vals hW hA => (h.2 M w vals hW hA).mono fun _ _ k => k.imp_left fun ⟨v, r, st', M', a1, a2, a3, a4, a5⟩ => ⟨v, r, st', M', a1, a2, a3, a4, hR r st' a5⟩⟩
  · exact .inr ⟨hf, fun r st' k => (hR' r st' k).elim fun r k => k.elim fun st' k => hno r st' k, h⟩
theorem pcalls_frame (P : Program) (G : Glob) (E : PE) : CFrame (PCallsE P G E) :=
  ⟨fun f as st R b cells h hb => pcalls_mono (pcalls_frame0 P G E f as st _ b cells h hb) (by rintro r st'' ⟨st', ⟨rfl, hR⟩, _, rfl⟩; exact ⟨rfl, hR⟩) (by rintro r _ ⟨rfl, hR⟩; exact ⟨r, _, _, ⟨rfl, hR⟩, hb, rfl⟩), pcalls_frame0 P G E⟩

/-- What is known of a frame all along: its deferred calls, and some slots that nothing writes. -/
structure Fr where
  D : List Deferred
  pin : List (Nat × Value)
def Fr.ok (D : Fr) (a : Act) : Prop := a.defers = D.D ∧ ∀ p ∈ D.pin, a.tmps[p.1]? = some p.2
def Fr.no : Fr := ⟨[], []⟩

/-- How a frame of the machine stands to slots. -/
structure XRel (D : Fr) (G : Glob) (M : Mem) (N : Nat) (x : X) (a : Act) (w : World) : Prop where
  w : WRel G M x.m.st w
  s : ∀ t, AVRel M (x.sl t) (a.tmps.getD t undef)
  n : a.tmps.size = N
  d : D.ok a

theorem XRel.put {D : Fr} {G : Glob} {M M' : Mem} {N : Nat} {x : X} {a : Act} {w w' : World} {m' : Mx} {d : Option Nat} {r : AV} {v : Value}
    (h : XRel D G M N x a w) (hm : MLe M M') (hw : WRel G M' m'.st w') (hv : AVRel M' r v) (hd : ∀ t, d = some t → t < N ∧ ∀ p ∈ D.pin, p.1 ≠ t) : XRel D G M' N ⟨put x.sl d r, m'⟩ (a.put d v) w' := by
  cases d with
  | none => exact ⟨hw, fun t => (h.s t).mono hm, h.n, h.d⟩
  | some t =>
    refine ⟨hw, fun u => ?_, by simp [Act.put, h.n], h.d.1, fun p hp => by rw [Act.put]; simp only; rw [Array.getElem?_setIfInBounds_ne (fun e => (hd t rfl).2 p hp e.symm)]; exact h.d.2 p hp⟩
    have ht := (hd t rfl).1
    have hn := h.n
    simp only [Pv.put, Act.put]
    by_cases hu : u = t
    · subst hu
      rw [if_pos rfl]
      simpa [Array.getD_eq_getD_getElem?, Array.getElem?_setIfInBounds, hn, ht] using hv
    · rw [if_neg hu]
      have : (a.tmps.setIfInBounds t v).getD u undef = a.tmps.getD u undef := by
        simp [Array.getD_eq_getD_getElem?, Ne.symm hu]
      rw [this]
      exact (h.s u).mono hm

/-! Looking at values. -/
section inv
variable {M : Mem}
theorem inv_int {k : IntKind} {n : Int} {v : Value} (h : AVRel M (.d (.int k n)) v) : v = .int k n := by cases h with | d _ _ h => cases h; rfl
theorem inv_bool {b : Bool} {v : Value} (h : AVRel M (.d (.bool b)) v) : v = .bool b := by cases h with | d _ _ h => cases h; rfl
theorem inv_str {s : ByteArray} {v : Value} (h : AVRel M (.d (.str s)) v) : v = .string s := by cases h with | d _ _ h => cases h; rfl
theorem inv_flt {k : FloatKind} {n : Nat} {v : Value} (h : AVRel M (.d (.flt k n)) v) : v = .float k n := by cases h with | d _ _ h => cases h; rfl
theorem inv_ptr {b o : Nat} {v : Value} (h : AVRel M (.d (.ptr b o)) v) : v = .pointer (some ⟨b, o, none⟩) := by cases h with | d _ _ h => cases h; rfl
theorem inv_bsl {b o l c : Nat} {v : Value} (h : AVRel M (.bsl b o l c) v) : v = .slice (some ⟨b, o, none⟩) l c ∧ l ≤ c := by cases h with | bsl _ _ _ _ h => exact ⟨rfl, h⟩
theorem inv_agg {l : List AV} {v : Value} (h : AVRel M (.agg l) v) : ∃ cs : List Value, v = .agg cs.toArray ∧ ARel M l cs := by
  cases h with | agg _ cs hl h1 => exact ⟨cs, rfl, hl, h1⟩
theorem inv_tup {l : List AV} {v : Value} (h : AVRel M (.tup l) v) : ∃ cs : List Value, v = .tuple cs.toArray ∧ ARel M l cs := by
  cases h with | tup _ cs hl h1 => exact ⟨cs, rfl, hl, h1⟩

/-- Rows that lie in memory for good. -/
def RowsAt (M : Mem) (rows : List (List Dat)) (A : Option Addr) : Prop :=
  rows = [] ∨ ∃ b off size, ∃ vs : Nat → Value, A = some ⟨b, off, none⟩ ∧ (∀ r ∈ rows, r.length = size) ∧
    (∀ o, o < rows.length * size → M b (off + o) = some (vs o)) ∧ ∀ i j (hi : i < rows.length) (hj : j < rows[i].length), DRel M rows[i][j] (vs (i * size + j))

theorem inv_rows {x : AV} {rows : List (List Dat)} (hx : x.rows? = some rows) {v : Value} (h : AVRel M x v) :
    ∃ A cap, v = .slice A rows.length cap ∧ rows.length ≤ cap ∧ RowsAt M rows A := by
  cases h with
  | undef => cases hx
  | d y v h =>
    cases h <;> simp only [AV.rows?] at hx <;> try (cases hx; done)
    case slE a cap => cases hx; exact ⟨a, cap, rfl, Nat.zero_le _, .inl rfl⟩
    case sl rows' b off cap size vs hc hs hm hr => cases hx; exact ⟨_, cap, rfl, hc, .inr ⟨b, off, size, vs, rfl, hs, hm, hr⟩⟩
  | fullE => cases hx; exact ⟨none, 0, rfl, Nat.zero_le _, .inl rfl⟩
  | full rows' b size vs hs hm hr => cases hx; exact ⟨_, _, rfl, Nat.le_refl _, .inr ⟨b, 0, size, vs, rfl, hs, by simpa using hm, hr⟩⟩
  | own b rows' cap size vs hc hs hm hr => cases hx; exact ⟨_, _, rfl, hc, .inr ⟨b, 0, size, vs, rfl, hs, by simpa using hm, hr⟩⟩
  | bsl => cases hx
  | elt => cases hx
  | agg => cases hx
  | tup => cases hx

theorem RowsAt.rel {rows : List (List Dat)} {A : Option Addr} {cap : Nat} (h : RowsAt M rows A) (hc : rows.length ≤ cap) : DRel M (.sl rows) (.slice A rows.length cap) := by
  rcases h with rfl | ⟨b, off, size, vs, rfl, hs, hm, hr⟩
  · exact .slE A cap
  · exact .sl rows b off cap size vs hc hs hm hr

theorem dat_rel {x : AV} {y : Dat} (hx : x.dat? = some y) {v : Value} (h : AVRel M x v) : DRel M y v := by
  have key : ∀ rows, x.rows? = some rows → DRel M (.sl rows) v := fun rows hr => by
    obtain ⟨A, cap, rfl, hc, k⟩ := inv_rows hr h
    exact k.rel hc
  cases x <;> simp only [AV.dat?] at hx <;> try (cases hx; done)
  case d z => cases hx; cases h with | d _ _ h => exact h
  case full rows => cases hx; exact key rows rfl
  case own b rows cap => cases hx; exact key rows rfl

theorem weak1_rel {x : AV} {v : Value} (h : AVRel M x v) : AVRel M x.weak1 v := by
  cases x <;> simp only [AV.weak1] <;> try exact h
  case full rows => exact .d _ _ (dat_rel (x := .full rows) rfl h)
  case own b rows cap => exact .d _ _ (dat_rel (x := .own b rows cap) rfl h)
theorem weakA_rel {x : AV} {v : Value} (h : AVRel M x v) : AVRel M x.weakA v := by
  cases x <;> simp only [AV.weakA] <;> try exact h
  case full rows => exact .d _ _ (dat_rel (x := .full rows) rfl h)
  case own b rows cap => exact .d _ _ (dat_rel (x := .own b rows cap) rfl h)
  case agg cells =>
    obtain ⟨cs, rfl, hl, h1⟩ := inv_agg h
    exact .agg _ cs (by simp [hl]) fun i a b => by simp only [List.getElem_map]; exact weak1_rel (h1 i (by simpa using a) b)
theorem weak_rel {x : AV} {v : Value} (h : AVRel M x v) : AVRel M x.weak v := by
  cases x <;> simp only [AV.weak] <;> try exact h
  case full rows => exact .d _ _ (dat_rel (x := .full rows) rfl h)
  case own b rows cap => exact .d _ _ (dat_rel (x := .own b rows cap) rfl h)
  case agg cells =>
    obtain ⟨cs, rfl, hl, h1⟩ := inv_agg h
    exact .agg _ cs (by simp [hl]) fun i a b => by simp only [List.getElem_map]; exact weak1_rel (h1 i (by simpa using a) b)
  case tup vs =>
    cases h with
    | tup _ cs hl h1 => exact .tup _ cs (by simp [hl]) fun i a b => by simp only [List.getElem_map]; exact weakA_rel (h1 i (by simpa using a) b)

theorem oneCell_of_sc {x : AV} {v : Value} (hx : x.sc = true) (h : AVRel M x v) : v.oneCell' = true := by
  cases h <;> simp only [AV.sc] at hx <;> try (cases hx; done)
  case d y h => cases h <;> rfl
  all_goals rfl
theorem cells_of_sc {x : AV} {v : Value} (hx : x.sc = true) (h : AVRel M x v) : x.cells = [x] ∧ v.cells = #[v] := by
  cases h <;> simp only [AV.sc] at hx <;> try (cases hx; done)
  case d y h => exact ⟨rfl, h.oneCell.1⟩
  all_goals exact ⟨rfl, rfl⟩
/-- A value's cells. -/
theorem cells_rel {x : AV} {v : Value} (h : AVRel M x v) (hne : x.cells ≠ []) : ARel M x.cells v.cells.toList := by
  by_cases hx : x.sc = true
  · obtain ⟨e1, e2⟩ := cells_of_sc hx h
    rw [e1, e2]
    exact .cons h (.nil _)
  · cases x <;> simp only [AV.sc] at hx <;> try (exact absurd trivial hx)
    case undef => exact absurd rfl hne
    case tup vs => exact absurd rfl hne
    case agg cells =>
      obtain ⟨cs, rfl, hl, h1⟩ := inv_agg h
      exact ⟨hl, h1⟩
end inv

/-! Operands. -/
section args
variable {D : Fr} {P : Program} {G : Glob} {M : Mem} {N : Nat} {x : X} {a : Act} {w : World}

theorem cVal_rel {v : Value} {y : AV} (h : cVal v = some y) : AVRel M y v := by
  unfold cVal at h
  split at h <;> cases h
  · exact .d _ _ (.bool _)
  · exact .d _ _ (.int _ _)
  · exact .d _ _ (.flt _ _)
  · exact .d _ _ (.str _)
  · exact .d _ _ .nilp
  · exact .fullE
  · exact .d _ _ .nilm
  · exact .d _ _ .nilf
  · exact .d _ _ .nili

theorem cArg_rel (hx : XRel D G M N x a w) {o : Operand} {g : Arg} (h : cArg o = some g) : AVRel M (g.ev G x.sl) (a.eval o) := by
  cases o with
  | tmp t => cases h; exact hx.s t
  | const v =>
    simp only [cArg, Option.map_eq_some_iff] at h
    obtain ⟨y, hy, rfl⟩ := h
    exact cVal_rel hy
  | global g' =>
    cases h
    simp only [Arg.ev, Act.eval]
    cases hg : G g' with
    | none => exact .undef _
    | some cells =>
      refine .elt cells g' 0 (fun o => (M g' o).getD undef) (fun o ho => ?_) (fun o ho => ?_)
      · obtain ⟨v, hv, _⟩ := hx.w.glob g' cells hg o ho
        simp [hv]
      · obtain ⟨v, hv, hd⟩ := hx.w.glob g' cells hg o ho
        simpa [hv] using hd
  | func f =>
    cases h
    exact .d _ _ (.fn f [] [] [] [] rfl rfl (fun i h => by simp at h) (fun i h => by simp at h))

theorem mapM_some_iff {α β : Type} {f : α → Option β} : ∀ {l : List α} {k : List β}, l.mapM f = some k → k.length = l.length ∧ ∀ i (h : i < l.length) (h' : i < k.length), f l[i] = some k[i]
  | [], k, h => by simp at h; subst h; exact ⟨rfl, fun i h => by simp at h⟩
  | x :: l, k, h => by
    simp only [List.mapM_cons, Option.pure_def, Option.bind_eq_bind, Option.bind_eq_some_iff, Option.some.injEq] at h
    obtain ⟨y, hy, k', hk, rfl⟩ := h
    obtain ⟨h1, h2⟩ := mapM_some_iff hk
    refine ⟨by simp [h1], fun i a b => ?_⟩
    cases i with
    | zero => exact hy
    | succ i => exact h2 i (by simpa using a) (by simpa using b)

theorem cArgs_rel (hx : XRel D G M N x a w) {xs : List Operand} {gs : List Arg} (h : xs.mapM cArg = some gs) :
    ARel M (gs.map fun (p : Arg) => p.ev G x.sl) (xs.map a.eval) := by
  obtain ⟨h1, h2⟩ := mapM_some_iff h
  exact ARel.map h1.symm fun i a b => cArg_rel hx (h2 i b a)
theorem cArgO_rel (hx : XRel D G M N x a w) {o : Option Operand} {g : Option Arg} (h : cArgO o = some g) :
    (o = none ∧ g = none) ∨ ∃ y p, o = some y ∧ g = some p ∧ AVRel M (p.ev G x.sl) (a.eval y) := by
  cases o with
  | none => cases h; exact .inl ⟨rfl, rfl⟩
  | some y =>
    simp only [cArgO, Option.map_eq_some_iff] at h
    obtain ⟨p, hp, rfl⟩ := h
    exact .inr ⟨y, p, rfl, rfl, cArg_rel hx hp⟩
end args

end Go.Pv
