/- Functions by value. No condition. -/
import Derived.Test.YtdggkhnelmonkaaDoorP15
namespace Go.Pv

/-- No more than. -/
structure St.le (s t : St) : Prop where
  box : ∀ b c, s.box b = some c → t.box b = some c
  tok : ∀ b k, s.tok b = some k → t.tok b = some k
theorem St.le.refl (s : St) : s.le s := ⟨fun _ _ h => h, fun _ _ h => h⟩
theorem St.le.trans {s t u : St} (h : s.le t) (k : t.le u) : s.le u := ⟨fun b c e => k.box b c (h.box b c e), fun b c e => k.tok b c (h.tok b c e)⟩
theorem St.le.setBox {s t : St} (h : s.le t) {b : Nat} (cells : List AV) (hb : s.box b = none) : s.le (t.setBox b cells) :=
  ⟨fun c l e => by rw [St.box_setBox, if_neg (fun k => by subst k; rw [hb] at e; cases e)]; exact h.box c l e, h.tok⟩
theorem St.le.setTok {s t : St} (h : s.le t) {b : Nat} (k : Tok) (hb : s.tok b = none) : s.le (t.setTok b k) :=
  ⟨h.box, fun c l e => by rw [St.tok_setTok, if_neg (fun k => by subst k; rw [hb] at e; cases e)]; exact h.tok c l e⟩
theorem St.le.dropTok {s t : St} (h : s.le t) {b : Nat} (hb : s.tok b = none) : s.le (t.dropTok b) :=
  ⟨h.box, fun c l e => by rw [St.tok_dropTok, if_neg (fun k => by subst k; rw [hb] at e; cases e)]; exact h.tok c l e⟩

theorem WRel.shrink {G : Glob} {M : Mem} {s t : St} {w : World} (h : WRel G M t w) (hs : s.le t) : WRel G M s w where
  box := fun b c hb => h.box b c (hs.box b c hb)
  boxM := fun b c hb => h.boxM b c (hs.box b c hb)
  boxT := fun b c hb => by
    have := h.boxT b c (hs.box b c hb)
    cases e : s.tok b with
    | none => rfl
    | some k => rw [hs.tok b k e] at this; cases this
  tok := fun b k hb => h.tok b k (hs.tok b k hb)
  imm := h.imm
  glob := h.glob

theorem Frame.shrink {s0 s t : St} {M M' : Mem} {w w' : World} (h : Frame s0 t M M' w w') (hs : s.le t) : Frame s0 s M M' w w' where
  os := h.os
  tape := h.tape
  output := h.output
  size := h.size
  blk := h.blk
  mem := h.mem
  mle := h.mle
  domB := fun b hb h1 h2 => by
    obtain ⟨k1, k2⟩ := h.domB b hb h1 h2
    constructor
    · cases e : s.box b with
      | none => rfl
      | some c => rw [hs.box b c e] at k1; cases k1
    · cases e : s.tok b with
      | none => rfl
      | some c => rw [hs.tok b c e] at k2; cases k2

def PRes.ev (s : Slots) (t : St) : PRes → Option AV
  | .tmp i => some (s i)
  | .cell a ag sz => match s a with
    | .d (.ptr b o) => (t.box b).bind fun cells => ldv ag sz (cells.drop o)
    | _ => none
def pret1 : List AV → AV
  | [v] => v
  | l => .tup l
def pret (rs : List PRes) (s : Slots) (t : St) : Option AV := (rs.mapM (PRes.ev s t)).map pret1
def pinit (as : List AV) : Slots := fun t => as.getD t (.tup [])

section
variable {P : Program} {G : Glob} {M : Mem} {w : World}

def resVal (tmps : Array Value) : ResultVar → Sem Value
  | .tmp t => pure (tmps.getD t undef)
  | .cell a t => do loadVar t (← asAddr (tmps.getD a undef))
theorem results_eq (fn : Func) (tmps : Array Value) : results fn tmps = (do let vs ← fn.results.mapM (resVal tmps); pure (if h : vs.size = 1 then vs[0] else .tuple vs)) := by
  unfold results
  congr 1

theorem res1_run {v : ResultVar} {r : PRes} (hc : compRes P v = some r) {s : Slots} {t : St} (hW : WRel G M t w) {tmps : Array Value} (hs : ∀ i, AVRel M (s i) (tmps.getD i undef)) {x : AV} (h : r.ev s t = some x) :
    ∃ u, (resVal tmps v).run P w = .ok u w ∧ AVRel M x u := by
  cases v with
  | tmp i => cases hc; cases h; exact ⟨_, rfl, hs i⟩
  | cell a ty =>
    simp only [compRes] at hc
    split at hc <;> cases hc
    rename_i sz ag hsz hag
    simp only [PRes.ev] at h
    split at h <;> (try (cases h; done))
    rename_i b o e
    simp only [Option.bind_eq_some_iff] at h
    obtain ⟨cells, hb, hl⟩ := h
    have h3 := hs a
    rw [e] at h3
    obtain ⟨t', cs, e1, e2, e3⟩ := box_cells hW hb
    obtain ⟨u, e4, e5⟩ := load_run (P := P) (w := w) (b := b) (off := o) hsz hag (e2.drop o)
      (fun j hj => by rw [List.getElem_drop]; exact e3 _ (by simp at hj ⊢; omega)) hl
    refine ⟨u, ?_, e5⟩
    have h4 := inv_ptr h3
    simp only [resVal, h4]
    simpa [Instr.loadAt, Instr.sureAddr, asAddr] using e4

theorem resL_run {s : Slots} {t : St} (hW : WRel G M t w) {tmps : Array Value} (hs : ∀ i, AVRel M (s i) (tmps.getD i undef)) :
    ∀ (l : List ResultVar) (rs : List PRes) (xs : List AV), l.mapM (compRes P) = some rs → rs.mapM (PRes.ev s t) = some xs →
    ∃ us : List Value, (l.mapM (resVal tmps)).run P w = .ok us w ∧ ARel M xs us
  | [], rs, xs, hr, hx => by
    simp at hr; subst hr
    simp at hx; subst hx
    exact ⟨[], rfl, .nil _⟩
  | v :: l, rs, xs, hr, hx => by
    simp only [List.mapM_cons, Option.pure_def, Option.bind_eq_bind, Option.bind_eq_some_iff, Option.some.injEq] at hr
    obtain ⟨r, hr1, rs', hrs, rfl⟩ := hr
    simp only [List.mapM_cons, Option.pure_def, Option.bind_eq_bind, Option.bind_eq_some_iff, Option.some.injEq] at hx
    obtain ⟨x, hx1, xs', hxs, rfl⟩ := hx
    obtain ⟨u, e1, e2⟩ := res1_run hr1 hW hs hx1
    obtain ⟨us, e3, e4⟩ := resL_run hW hs l rs' xs' hrs hxs
    refine ⟨u :: us, ?_, .cons e2 e4⟩
    rw [List.mapM_cons, Sem.run_bind, e1, Result.andThen_ok, Sem.run_bind, e3, Result.andThen_ok]
    rfl

theorem results_run {fn : Func} {rs : List PRes} (hr : fn.results.toList.mapM (compRes P) = some rs) {s : Slots} {t : St} (hW : WRel G M t w) {tmps : Array Value} (hs : ∀ i, AVRel M (s i) (tmps.getD i undef)) {x : AV}
    (h : pret rs s t = some x) : ∃ u, (results fn tmps).run P w = .ok u w ∧ AVRel M x u := by
  simp only [pret, Option.map_eq_some_iff] at h
  obtain ⟨xs, hxs, rfl⟩ := h
  obtain ⟨us, e1, e2⟩ := resL_run hW hs _ _ _ hr hxs
  have hm : (fn.results.mapM (resVal tmps)).run P w = .ok us.toArray w := by
    rw [Array.mapM_eq_mapM_toList, Sem.run_map, e1]
    rfl
  rw [results_eq, Sem.run_bind]
  refine ⟨_, by rw [hm, Result.andThen_ok]; rfl, ?_⟩
  have hl := e2.1
  match xs, us, e2, hl with
  | [], [], e2, _ => exact .tup [] [] rfl (fun i h => by simp at h)
  | [x], [u], e2, _ => exact e2.2 0 (by simp) (by simp)
  | x :: y :: xs, u :: v :: us, e2, hl =>
    have : ¬ ((u :: v :: us).toArray.size = 1) := by simp
    rw [dif_neg this]
    exact .tup _ _ e2.1 e2.2

/-- What is to hold where the function ends. -/
def pfin (rs : List PRes) (R : AV → St → Prop) : PEx → Slots → St → Prop
  | .exit _, _, _ => False
  | .normal, s, t => ∃ r r' st', pret rs s t = some r ∧ (r' = r ∨ r' = r.weak) ∧ st'.le t ∧ R r' st'
  | .ret, s, t => ∃ r r' st', pret rs s t = some r ∧ (r' = r ∨ r' = r.weak) ∧ st'.le t ∧ R r' st'

/-- A FUNCTION, BY VALUE. -/
theorem pcalls_of {E : PE} {md : Nat → Nat} {f : FuncId} {pf : PFun} (hc : compFun P md f = some pf.er) (hent : entered P f = true) {as : List AV} {st : St} {R : AV → St → Prop} (hlen : as.length ≤ pf.ntmps)
    (h : pwp G (PCallsE P G E) pf.body (pfin pf.results R) (pinit as) st) : PCallsE P G E f as st R := by
  refine .inl ⟨hent, fun M w vals hW hA => ?_⟩
  unfold compFun at hc
  split at hc <;> (try (cases hc; done))
  rename_i fn hfn
  split at hc <;> (try (cases hc; done))
  rename_i c rs hb hrs
  simp only [Option.map_eq_some_iff] at hc
  obtain ⟨pb, hpb, hpe⟩ := hc
  obtain ⟨body, nargs, ntmps, results⟩ := pf
  simp only [PFun.er, PFun.mk.injEq] at hpe
  obtain ⟨rfl, rfl, rfl, rfl⟩ := hpe
  simp only at h hlen
  have hsz : vals.size = as.length := by have := hA.1; simpa using this
  refine calls_of_wp hfn hb ?_
  have hR : Rel Fr.no G fn.ntmps st M w (pinit as) st { tmps := vals ++ Array.replicate (fn.ntmps - vals.size) undef, defers := [] } w := by
    refine ⟨M, ⟨hW, fun t => ?_, by simp; omega, rfl, fun p hp => by cases hp⟩, .refl _ _ _⟩
    simp only [pinit, Array.getD_eq_getD_getElem?]
    by_cases ht : t < as.length
    · rw [Array.getElem?_append_left (by omega), Array.getElem?_eq_getElem (by omega)]
      simp only [List.getD, List.getElem?_eq_getElem ht, Option.getD_some]
      have := hA.2 t ht (by simpa [hsz] using ht)
      simpa using this
    · rw [Array.getElem?_append_right (by omega)]
      have e1 : as.getD t (.tup []) = .tup [] := by simp [List.getD, List.getElem?_eq_none (by omega : as.length ≤ t)]
      have e2 : ((Array.replicate (fn.ntmps - vals.size) undef)[t - vals.size]?).getD undef = undef := by
        rw [Array.getElem?_replicate]; split <;> rfl
      rw [e1, e2]
      exact .tup [] [] rfl (fun i h => by simp at h)
  have fin : ∀ (a : Act) (w' : World) (s : Slots) (t : St), Rel Fr.no G fn.ntmps st M w s t a w' → (∃ r r' st', pret rs s t = some r ∧ (r' = r ∨ r' = r.weak) ∧ st'.le t ∧ R r' st') →
      a.defers = [] ∧ ∃ v, (results fn a.tmps).run P w' = .ok v w' ∧ ((∃ v_1 r st' M', Ending.returned v = .returned v_1 ∧ WRel G M' st' w' ∧ AVRel M' r v_1 ∧ Frame st st' M M' w w' ∧ R r st') ∨ PPan G E st M w (.returned v) w') := by
    rintro a w' s t ⟨M', ⟨hW', hs, hn, hd⟩, hF⟩ ⟨r, r', st', hr, hw, hle, hRr⟩
    obtain ⟨u, e1, e2⟩ := results_run hrs hW' hs hr
    exact ⟨hd.1, u, e1, .inl ⟨u, r', st', M', rfl, hW'.shrink hle, by rcases hw with rfl | rfl; exact e2; exact weak_rel e2, hF.shrink hle, hRr⟩⟩
  refine code_sound (D := Fr.no) hpb (PCode.misses_nil _) (Qm := bodyPost P fn _) ?_ (fun v r st' M' a w' k1 k2 k3 k4 k5 => ⟨k3.1, .inr ⟨v, r, st', M', rfl, k1, k2, k4, k5⟩⟩) hR h
  intro e a w' s t hR' hk
  cases e with
  | normal => exact fin a w' s t hR' hk
  | ret => exact fin a w' s t hR' hk
  | exit id => exact hk.elim

end
end Go.Pv
