/- Functions by value. No condition. -/
import Derived.Test.YtdggkhnelmonkaaDoorP15
namespace Go.Pv

/-- No more than. -/
structure St.le (s t : St) : Prop where
  box : ∀ b c, s.box b = some c → t.box b = some c
  tok : ∀ b k, s.tok b = some k → t.tok b = some k
theorem St.le.refl (s : St) : s.le s := ⟨fun _ _ h => h, fun _ _ h => h⟩
theorem St.le.trans {s t u : St} (h : s.le t) (k : t.le u) : s.le u := ⟨fun b c e => k.box b c (h.box b c e), fun b c e => k.tok b c (h.tok b c e)⟩
theorem St.le.setBox {s t : St} (h : s.le t) {b : Nat} (cells : List AV) (hb : s.box b = none) : s.le (t.setBox b cells) :=
  ⟨fun c l e => by rw [St.box_setBox, if_neg (fun k => by subst k; rw [hb] at e; cases e)]; exact h.box c l e, h.tok⟩
theorem St.le.setTok {s t : St} (h : s.le t) {b : Nat} (k : Tok) (hb : s.tok b = none) : s.le (t.setTok b k) :=
  ⟨h.box, fun c l e => by rw [St.tok_setTok, if_neg (fun k => by subst k; rw [hb] at e; cases e)]; exact h.tok c l e⟩
theorem St.le.dropTok {s t : St} (h : s.le t) {b : Nat} (hb : s.tok b = none) : s.le (t.dropTok b) :=
  ⟨h.box, fun c l e => by rw [St.tok_dropTok, if_neg (fun k => by subst k; rw [hb] at e; cases e)]; exact h.tok c l e⟩

theorem WRel.shrink {G : Glob} {M : Mem} {s t : St} {w : World} (h : WRel G M t w) (hs : s.le t) : WRel G M s w where
  box := fun b c hb => h.box b c (hs.box b c hb)
  boxM := fun b c hb => h.boxM b c (hs.box b c hb)
  boxT := fun b c hb => by
    have := h.boxT b c (hs.box b c hb)
    cases e : s.tok b with
    | none => rfl
    | some k => rw [hs.tok b k e] at this; cases this
  tok := fun b k hb => h.tok b k (hs.tok b k hb)
  imm := h.imm
  glob := h.glob

theorem Frame.shrink {s0 s t : St} {M M' : Mem} {w w' : World} (h : Frame s0 t M M' w w') (hs : s.le t) : Frame s0 s M M' w w' where
  os := h.os
  tape := h.tape
  output := h.output
  size := h.size
  blk := h.blk
  mem := h.mem
  mle := h.mle
  domB := fun b hb h1 h2 => by
    obtain ⟨k1, k2⟩ := h.domB b hb h1 h2
    constructor
    · cases e : s.box b with
      | none => rfl
      | some c => rw [hs.box b c e] at k1; cases k1
    · cases e : s.tok b with
      | none => rfl
      | some c => rw [hs.tok b c e] at k2; cases k2

def PRes.ev (s : Slots) (t : St) : PRes → Option AV
  | .tmp i => some (s i)
  | .cell a ag sz => match s a with
    | .d (.ptr b o) => (t.box b).bind fun cells => ldv ag sz (cells.drop o)
    | _ => none
def pret1 : List AV → AV
  | [v] => v
  | l => .tup l
def pret (rs : List PRes) (s : Slots) (t : St) : Option AV := (rs.mapM (PRes.ev s t)).map pret1
def pinit (as : List AV) : Slots := fun t => as.getD t (.tup [])

section
variable {P : Program} {G : Glob} {M : Mem} {w : World}

def resVal (tmps : Array Value) : ResultVar → Sem Value
  | .tmp t => pure (tmps.getD t undef)
  | .cell a t => do loadVar t (← asAddr (tmps.getD a undef))
theorem results_eq (fn : Func) (tmps : Array Value) : results fn tmps = (do let vs ← fn.results.mapM (resVal tmps); pure (if h : vs.size = 1 then vs[0] else .tuple vs)) := by
  unfold results
  congr 1

theorem res1_run {v : ResultVar} {r : PRes} (hc : compRes P v = some r) {s : Slots} {t : St} (hW : WRel G M t w) {tmps : Array Value} (hs : ∀ i, AVRel M (s i) (tmps.getD i undef)) {x : AV} (h : r.ev s t = some x) :
    ∃ u, (resVal tmps v).run P w = .ok u w ∧ AVRel M x u := by
  cases v with
  | tmp i => cases hc; cases h; exact ⟨_, rfl, hs i⟩
  | cell a ty =>
    simp only [compRes] at hc
    split at hc <;> cases hc
    rename_i sz ag hsz hag
    simp only [PRes.ev] at h
    split at h <;> (try (cases h; done))
    rename_i b o e
    simp only [Option.bind_eq_some_iff] at h
    obtain ⟨cells, hb, hl⟩ := h
    have h3 := hs a
    rw [e] at h3
    obtain ⟨t', cs, e1, e2, e3⟩ := box_cells hW hb
    obtain ⟨u, e4, e5⟩ := load_run (P := P) (w := w) (b := b) (off := o) hsz hag (e2.drop o)
      (fun j hj => by rw [List.getElem_drop]; exact e3 _ (by simp at hj ⊢; omega)) hl
    refine ⟨u, ?_, e5⟩
    have h4 := inv_ptr h3
    simp only [resVal, h4]
    simpa [Instr.loadAt, Instr.sureAddr, asAddr] using e4

theorem resL_run {s : Slots} {t : St} (hW : WRel G M t w) {tmps : Array Value} (hs : ∀ i, AVRel M (s i) (tmps.getD i undef)) :
    ∀ (l : List ResultVar) (rs : List PRes) (xs : List AV), l.mapM (compRes P) = some rs → rs.mapM (PRes.ev s t) = some xs →
    ∃ us : List Value, (l.mapM (resVal tmps)).run P w = .ok us w ∧ ARel M xs us
  | [], rs, xs, hr, hx => by
    simp at hr; subst hr
    simp at hx; subst hx
    exact ⟨[], rfl, .nil _⟩
  | v :: l, rs, xs, hr, hx => by
    simp only [List.mapM_cons, Option.pure_def, Option.bind_eq_bind, Option.bind_eq_some_iff, Option.some.injEq] at hr
    obtain ⟨r, hr1, rs', hrs, rfl⟩ := hr
    simp only [List.mapM_cons, Option.pure_def, Option.bind_eq_bind, Option.bind_eq_some_iff, Option.some.injEq] at hx
    obtain ⟨x, hx1, xs', hxs, rfl⟩ := hx
    obtain ⟨u, e1, e2⟩ := res1_run hr1 hW hs hx1
    obtain ⟨us, e3, e4⟩ := resL_run hW hs l rs' xs' hrs hxs
    refine ⟨u :: us, ?_, .cons e2 e4⟩
    rw [List.mapM_cons, Sem.run_bind, e1, Result.andThen_ok, Sem.run_bind, e3, Result.andThen_ok]
    rfl

theorem results_run {fn : Func} {rs : List PRes} (hr : fn.results.toList.mapM (compRes P) = some rs) {s : Slots} {t : St} (hW : WRel G M t w) {tmps : Array Value} (hs : ∀ i, AVRel M (s i) (tmps.getD i undef)) {x : AV}
    (h : pret rs s t = some x) : ∃ u, (results fn tmps).run P w = .ok u w ∧ AVRel M x u := by
  simp only [pret, Option.map_eq_some_iff] at h
  obtain ⟨xs, hxs, rfl⟩ := h
  obtain ⟨us, e1, e2⟩ := resL_run hW hs _ _ _ hr hxs
  have hm : (fn.results.mapM (resVal tmps)).run P w = .ok us.toArray w := by
    rw [Array.mapM_eq_mapM_toList, Sem.run_map, e1]
    rfl
  rw [results_eq, Sem.run_bind]
  refine ⟨_, by rw [hm, Result.andThen_ok]; rfl, ?_⟩
  have hl := e2.1
  match xs, us, e2, hl with
  | [], [], e2, _ => exact .tup [] [] rfl (fun i h => by simp at h)
  | [x], [u], e2, _ => exact e2.2 0 (by simp) (by simp)
  | x :: y :: xs, u :: v :: us, e2, hl =>
    have : ¬ ((u :: v :: us).toArray.size = 1) := by simp
    rw [dif_neg this]
    exact .tup _ _ e2.1 e2.2

/-- What is to hold where the function ends. -/
def pfin (rs : List PRes) (R : AV → St → Prop) : PEx → Slots → St → Prop
  | .exit _, _, _ => False
  | .normal, s, t => ∃ r r' st', pret rs s t = some r ∧ (r' = r ∨ r' = r.weak) ∧ st'.le t ∧ R r' st'
  | .ret, s, t => ∃ r r' st', pret rs s t = some r ∧ (r' = r ∨ r' = r.weak) ∧ st'.le t ∧ R r' st'

/-- A FUNCTION, BY VALUE. -/
theorem pcalls_of {E : PE} {md : Nat → Nat} {f : FuncId} {pf : PFun} (hc : compFun P md f = some pf.er) (hent : entered P f = true) {as : List AV} {st : St} {R : AV → St → Prop} (hlen : as.length ≤ pf.ntmps)
    (h : pwp G (PCallsE P G E) pf.body (pfin pf.results R) (pinit as) st) : PCallsE P G E f as st R := by
  refine .inl ⟨hent, fun M w vals hW hA => ?_⟩
  unfold compFun at hc
  split at hc <;> (try (cases hc; done))
  rename_i fn hfn
  split at hc <;> (try (cases hc; done))
  rename_i c rs hb hrs
  simp only [Option.map_eq_some_iff] at hc
  obtain ⟨pb, hpb, hpe⟩ := hc
  obtain ⟨body, nargs, ntmps, results⟩ := pf
  simp only [PFun.er, PFun.mk.injEq] at hpe
  obtain ⟨rfl, rfl, rfl, rfl⟩ := hpe
  simp only at h hlen
  have hsz : vals.size = as.length := by have := hA.1; simpa using this
  refine calls_of_wp hfn hb ?_
  have hR : Rel Fr.no G fn.ntmps st M w (pinit as) st { tmps := vals ++ Array.replicate (fn.ntmps - vals.size) undef, defers := [] } w := by
    refine ⟨M, ⟨hW, fun t => ?_, by simp; omega, rfl, fun p hp => by cases hp⟩, .refl _ _ _⟩
    simp only [pinit, Array.getD_eq_getD_getElem?]
    by_cases ht : t < as.length
    · rw [Array.getElem?_append_left (by omega), Array.getElem?_eq_getElem (by omega)]
      simp only [List.getD, List.getElem?_eq_getElem ht, Option.getD_some]
      have := hA.2 t ht (by simpa [hsz] using ht)
      simpa using this
    · rw [Array.getElem?_append_right (by omega)]
      have e1 : as.getD t (.tup []) = .tup [] := by simp [List.getD, List.getElem?_eq_none (by omega : as.length ≤ t)]
      have e2 : ((Array.replicate (fn.ntmps - vals.size) undef)[t - vals.size]?).getD undef = undef := by
        rw [Array.getElem?_replicate]; split <;> rfl
      rw [e1, e2]
      exact .tup [] [] rfl (fun i h => by simp at h)
  have fin : ∀ (a : Act) (w' : World) (s : Slots) (t : St), Rel Fr.no G fn.ntmps st M w s t a w' → (∃ r r' st', pret rs s t = some r ∧ (r' = r ∨ r' = r.weak) ∧ st'.le t ∧ R r' st') →
      a.defers = [] ∧ ∃ v, (results fn a.tmps).run P w' = .ok v w' ∧ ((∃ v_1 r st' M', Ending.returned v = .returned v_1 ∧ WRel G M' st' w' ∧ AVRel M' r v_1 ∧ Frame st st' M M' w w' ∧ R r st') ∨ PPan G E st M w (.returned v) w') := by
    rintro a w' s t ⟨M', ⟨hW', hs, hn, hd⟩, hF⟩ ⟨r, r', st', hr, hw, hle, hRr⟩
    obtain ⟨u, e1, e2⟩ := results_run hrs hW' hs hr
    exact ⟨hd.1, u, e1, .inl ⟨u, r', st', M', rfl, hW'.shrink hle, by rcases hw with rfl | rfl; exact e2; exact weak_rel e2, hF.shrink hle, hRr⟩⟩
  refine code_sound (D := Fr.no) hpb (PCode.misses_nil _) (Qm := bodyPost P fn _) ?_ (fun v r st' M' a w' k1 k2 k3 k4 k5 => ⟨k3.1, .inr ⟨v, r, st', M', rfl, k1, k2, k4, k5⟩⟩) hR h
  intro e a w' s t hR' hk
  cases e with
  | normal => exact fin a w' s t hR' hk
  | ret => exact fin a w' s t hR' hk
  | exit id => exact hk.elim

end
end Go.Pv
/- Running code by value: rules. No condition. -/
namespace Go.Pv

section
variable {G : Glob} {C : CallsP} {P : Program}

/-- What a pure call gives. -/
def Pure (C : CallsP) (f : FuncId) (as : List AV) (v : AV) : Prop := ∀ st, C f as st (fun r st' => st' = st ∧ r = v)

theorem holds_pX {s : Slots} {t u : St} : (pX s t).m.holds u := fun _ _ h => h.elim
theorem holds_past {m : Mx} {t u : St} : (m.past t).holds u ↔ m.holds u := Iff.rfl
theorem holds_setSt {m : Mx} {t u : St} : (m.setSt t).holds u ↔ m.holds u := Iff.rfl
theorem pops_plain {po : POp} {d : Option Nat} {rest : List POper} {K : X → Prop} {s : Slots} {m : Mx} :
    pops G C (⟨d, po, none⟩ :: rest) K ⟨s, m⟩ = ostep G C s po m (fun v m' => pops G C rest K ⟨put s d v, m'⟩) := rfl
theorem pops_guard {po : POp} {d : Option Nat} {g : Nat × Bool} {rest : List POper} {K : X → Prop} {s : Slots} {m : Mx} :
    pops G C (⟨d, po, some g⟩ :: rest) K ⟨s, m⟩ = match wants s (some g) with | some true => pops G C (⟨d, po, none⟩ :: rest) K ⟨s, m⟩ | some false => pops G C rest K ⟨put s d (.tup []), m⟩ | none => False := rfl

theorem put_same {s : Slots} {t : Nat} {v : AV} : put s (some t) v t = v := if_pos rfl
theorem put_ne {s : Slots} {t u : Nat} {v : AV} (h : u ≠ t) : put s (some t) v u = s u := if_neg h
theorem ev_t {s : Slots} {n : Nat} : (Arg.t n).ev G s = s n := rfl
theorem ev_c {s : Slots} {v : AV} : (Arg.c v).ev G s = v := rfl
theorem put_none {s : Slots} {v : AV} : put s none v = s := rfl
theorem setSt_st {m : Mx} {t : St} : (m.setSt t).st = t := rfl
theorem past_st {m : Mx} {t : St} : (m.past t).st = t := rfl

/-- How slots are read. -/
theorem pvl : (∀ (G : Glob) (s : Slots) (n : Nat), (Arg.t n).ev G s = s n) ∧ (∀ (G : Glob) (s : Slots) (v : AV), (Arg.c v).ev G s = v) ∧ (∀ (s : Slots) (t : Nat) (v : AV), put s (some t) v t = v) ∧
    (∀ (s : Slots) (t u : Nat) (v : AV), u ≠ t → put s (some t) v u = s u) ∧ (∀ (s : Slots) (v : AV), put s none v = s) ∧ (∀ (m : Mx) (t : St), (m.setSt t).st = t) ∧ (∀ (m : Mx) (t : St), (m.past t).st = t) ∧
    (∀ (s : Slots) (t : St), (pX s t).sl = s) ∧ (∀ (s : Slots) (t : St), (pX s t).m.st = t) ∧ (∀ b : Bool, b2 b = .d (.bool b)) ∧ (!true) = false ∧ (!false) = true ∧ (∀ (i : Decidable True) (a b : AV), @ite AV True i a b = a) ∧ (∀ (i : Decidable False) (a b : AV), @ite AV False i a b = b) ∧
    (∀ (i : Decidable True) (a b : Bool), @ite Bool True i a b = a) ∧ (∀ (i : Decidable False) (a b : Bool), @ite Bool False i a b = b) ∧ (false = true) = False ∧ (true == true) = true ∧ (true == false) = false ∧ (false == true) = false ∧ (false == false) = true ∧ (∀ b : Bool, (b || true) = true) ∧ (∀ b : Bool, (b || false) = b) ∧ (∀ b : Bool, (true || b) = true) ∧ (∀ b : Bool, (false || b) = b) ∧ (∀ b : Bool, (b && true) = b) ∧ (∀ b : Bool, (b && false) = false) ∧ (∀ b : Bool, (true && b) = b) ∧ (∀ b : Bool, (false && b) = false) ∧ (∀ a : Int, (a == a) = true) :=
  ⟨fun _ _ _ => rfl, fun _ _ _ => rfl, fun _ _ _ => if_pos rfl, fun _ _ _ _ h => if_neg h, fun _ _ => rfl, fun _ _ => rfl, fun _ _ => rfl, fun _ _ => rfl, fun _ _ => rfl, fun _ => rfl, rfl, rfl, fun _ _ _ => if_pos trivial, fun _ _ _ => if_neg id, fun _ _ _ => if_pos trivial, fun _ _ _ => if_neg id, by simp, by simp⟩
/-- What is kept. -/
theorem pvt : (∀ (l : List Nat) (s : Slots), trim (some l) s = l.foldr (fun t acc => put acc (some t) (s t)) (fun _ => .undef)) ∧ (∀ (f : Nat → Slots → Slots) (z : Slots), List.foldr f z [] = z) ∧ (∀ (f : Nat → Slots → Slots) (z : Slots) (x : Nat) (l : List Nat), List.foldr f z (x :: l) = f x (List.foldr f z l)) :=
  ⟨fun _ _ => rfl, fun _ _ => rfl, fun _ _ _ _ => rfl⟩

theorem pseq {a b : PCode} {Q : PEx → Slots → St → Prop} {s : Slots} {t : St} (h : pwp G C a (PEx.next (pwp G C b Q) Q) s t) : pwp G C (.seq a b) Q s t := h
theorem pseqk {a b : PCode} {l : List Nat} {Q : PEx → Slots → St → Prop} {s : Slots} {t : St} (h : pwp G C a (PEx.next (pwp G C (.keep l b) Q) Q) s t) : pwp G C (.seq a (.keep l b)) Q s t := h
theorem pseqr {a : List POper} {b : PCode} {l : List Nat} {Q : PEx → Slots → St → Prop} {s : Slots} {t : St} (h : pwp G C (.region a) (PEx.next (pwp G C (.keep l b) Q) Q) s t) : pwp G C (.seq (.region a) (.keep l b)) Q s t := h
theorem pseqe {a : List POper} {r : List POper} {c : Arg} {b : PCode} {l : List Nat} {Q : PEx → Slots → St → Prop} {s : Slots} {t : St} (h : pwp G C (.seq (.region a) (.cond c (.seq (.region r) .ret) .skip)) (PEx.next (pwp G C (.keep l b) Q) Q) s t) : pwp G C (.seq (.seq (.region a) (.cond c (.seq (.region r) .ret) .skip)) (.keep l b)) Q s t := h
theorem pseqe2 {a : List POper} {c : Arg} {b : PCode} {l : List Nat} {Q : PEx → Slots → St → Prop} {s : Slots} {t : St} (h : pwp G C (.seq (.region a) (.cond c .ret .skip)) (PEx.next (pwp G C (.keep l b) Q) Q) s t) : pwp G C (.seq (.seq (.region a) (.cond c .ret .skip)) (.keep l b)) Q s t := h
theorem pseqe3 {a : List POper} {id : Nat} {c : Arg} {b : PCode} {l : List Nat} {Q : PEx → Slots → St → Prop} {s : Slots} {t : St} (h : pwp G C (.seq (.region a) (.cond c (.exit id) .skip)) (PEx.next (pwp G C (.keep l b) Q) Q) s t) : pwp G C (.seq (.seq (.region a) (.cond c (.exit id) .skip)) (.keep l b)) Q s t := h
theorem pseqe4 {a : List POper} {r : List POper} {id : Nat} {c : Arg} {b : PCode} {l : List Nat} {Q : PEx → Slots → St → Prop} {s : Slots} {t : St} (h : pwp G C (.seq (.region a) (.cond c (.seq (.region r) (.exit id)) .skip)) (PEx.next (pwp G C (.keep l b) Q) Q) s t) : pwp G C (.seq (.seq (.region a) (.cond c (.seq (.region r) (.exit id)) .skip)) (.keep l b)) Q s t := h
theorem pkeep {b : PCode} {l : List Nat} {Q : PEx → Slots → St → Prop} {s : Slots} {t : St} (h : pwp G C b Q (trim (some l) s) t) : pwp G C (.keep l b) Q s t := ⟨_, _, .refl _ _, h⟩
/-- Where ways meet. -/
theorem pjoin {a b : PCode} {l : List Nat} {Q : PEx → Slots → St → Prop} {s : Slots} {t : St} (J : Slots → St → Prop) (h1 : pwp G C a (PEx.next (fun s' t' => J (trim (some l) s') t') Q) s t) (h2 : ∀ s t, J s t → pwp G C b Q s t) :
    pwp G C (.seq a (.keep l b)) Q s t :=
  pseqk (pwp_mono (PEx.next_mono (K := fun s' t' => J (trim (some l) s') t') (fun _ _ k => pkeep (h2 _ _ k)) fun _ _ _ k => k) h1)
theorem pregion {l : List POper} {Q : PEx → Slots → St → Prop} {s : Slots} {t : St} (h : pops G C l (fun x => Q .normal x.sl x.m.st) (pX s t)) : pwp G C (.region l) Q s t := h
theorem pnil {K : X → Prop} {x : X} (h : K x) : pops G C [] K x := h
theorem pnext {K : Slots → St → Prop} {Q : PEx → Slots → St → Prop} {s : Slots} {t : St} (h : K s t) : PEx.next K Q .normal s t := h
theorem pskip {Q : PEx → Slots → St → Prop} {s : Slots} {t : St} (h : Q .normal s t) : pwp G C .skip Q s t := h
theorem pcond_t {c : Arg} {a b : PCode} {Q : PEx → Slots → St → Prop} {s : Slots} {t : St} (hc : c.ev G s = .d (.bool true)) (h : pwp G C a Q s t) : pwp G C (.cond c a b) Q s t := by
  simp only [pwp, hc]; exact h
theorem pcond_f {c : Arg} {a b : PCode} {Q : PEx → Slots → St → Prop} {s : Slots} {t : St} (hc : c.ev G s = .d (.bool false)) (h : pwp G C b Q s t) : pwp G C (.cond c a b) Q s t := by
  simp only [pwp, hc]; exact h
theorem pcond {c : Arg} {a b : PCode} {Q : PEx → Slots → St → Prop} {s : Slots} {t : St} {v : Bool} (hc : c.ev G s = .d (.bool v)) (h1 : v = true → pwp G C a Q s t) (h2 : v = false → pwp G C b Q s t) : pwp G C (.cond c a b) Q s t := by
  cases v
  · exact pcond_f hc (h2 rfl)
  · exact pcond_t hc (h1 rfl)
theorem pcond_tt {c : Arg} {a b : PCode} {Q : PEx → Slots → St → Prop} {s : Slots} {t : St} (hc : c.ev G s = b2 true) (h : pwp G C a Q s t) : pwp G C (.cond c a b) Q s t := pcond_t hc h
theorem pcond_ff {c : Arg} {a b : PCode} {Q : PEx → Slots → St → Prop} {s : Slots} {t : St} (hc : c.ev G s = b2 false) (h : pwp G C b Q s t) : pwp G C (.cond c a b) Q s t := pcond_f hc h
theorem pret_ {Q : PEx → Slots → St → Prop} {s : Slots} {t : St} (h : Q .ret s t) : pwp G C .ret Q s t := h
theorem pexit_ {id : Nat} {Q : PEx → Slots → St → Prop} {s : Slots} {t : St} (h : Q (.exit id) s t) : pwp G C (.exit id) Q s t := h
theorem pnext_ret {K : Slots → St → Prop} {Q : PEx → Slots → St → Prop} {s : Slots} {t : St} (h : Q .ret s t) : PEx.next K Q .ret s t := h
theorem pnext_exit {id : Nat} {K : Slots → St → Prop} {Q : PEx → Slots → St → Prop} {s : Slots} {t : St} (h : Q (.exit id) s t) : PEx.next K Q (.exit id) s t := h
theorem pblock_ret {id : Nat} {Q : PEx → Slots → St → Prop} {s : Slots} {t : St} (h : Q .ret s t) : PEx.inBlock id Q .ret s t := h
theorem pblock_normal {id : Nat} {Q : PEx → Slots → St → Prop} {s : Slots} {t : St} (h : Q .normal s t) : PEx.inBlock id Q .normal s t := h
theorem pblock {id : Nat} {a : PCode} {Q : PEx → Slots → St → Prop} {s : Slots} {t : St} (h : pwp G C a (PEx.inBlock id Q) s t) : pwp G C (.block id a) Q s t := h
theorem pexit_in {id : Nat} {Q : PEx → Slots → St → Prop} {s : Slots} {t : St} (h : Q .normal s t) : PEx.inBlock id Q (.exit id) s t := by
  simp only [PEx.inBlock, if_true]; exact h
theorem pexit_out {id j : Nat} {Q : PEx → Slots → St → Prop} {s : Slots} {t : St} (hj : (j == id) = false) (h : Q (.exit j) s t) : PEx.inBlock id Q (.exit j) s t := by
  have : j ≠ id := by simpa using hj
  simp only [PEx.inBlock, if_neg this]; exact h

/-- One operation that looks at slots alone. -/
theorem po {po : POp} {d : Option Nat} {rest : List POper} {K : X → Prop} {s : Slots} {m : Mx} (hN : po.isN = true) {v : AV} (hv : ev G s po = some v) (h : pops G C rest K ⟨put s d v, m⟩) :
    pops G C (⟨d, po, none⟩ :: rest) K ⟨s, m⟩ := by
  rw [pops_plain]
  unfold ostep
  rw [nf_isN hN]
  exact ⟨v, hv, h⟩
/-- One that is not wanted. -/
theorem po_not {p : POp} {d : Option Nat} {t : Nat} {b c : Bool} {rest : List POper} {K : X → Prop} {s : Slots} {m : Mx} (hg : s t = .d (.bool c)) (hb : (c == b) = false) (h : pops G C rest K ⟨put s d (.tup []), m⟩) :
    pops G C (⟨d, p, some (t, b)⟩ :: rest) K ⟨s, m⟩ := by
  rw [pops_guard]
  simp only [wants, hg, hb]
  exact h
theorem po_not' {p : POp} {d : Option Nat} {t : Nat} {b : Bool} {rest : List POper} {K : X → Prop} {s : Slots} {m : Mx} (hg : s t = .tup []) (h : pops G C rest K ⟨put s d (.tup []), m⟩) :
    pops G C (⟨d, p, some (t, b)⟩ :: rest) K ⟨s, m⟩ := by
  rw [pops_guard]
  simp only [wants, hg]
  exact h
/-- One that is. -/
theorem po_yes {p : POp} {d : Option Nat} {t : Nat} {b c : Bool} {rest : List POper} {K : X → Prop} {s : Slots} {m : Mx} (hg : s t = .d (.bool c)) (hb : (c == b) = true) (h : pops G C (⟨d, p, none⟩ :: rest) K ⟨s, m⟩) :
    pops G C (⟨d, p, some (t, b)⟩ :: rest) K ⟨s, m⟩ := by
  rw [pops_guard]
  simp only [wants, hg, hb]
  exact h
theorem po_yt {p : POp} {d : Option Nat} {t : Nat} {rest : List POper} {K : X → Prop} {s : Slots} {m : Mx} (hg : s t = b2 true) (h : pops G C (⟨d, p, none⟩ :: rest) K ⟨s, m⟩) : pops G C (⟨d, p, some (t, true)⟩ :: rest) K ⟨s, m⟩ := po_yes hg rfl h
theorem po_yf {p : POp} {d : Option Nat} {t : Nat} {rest : List POper} {K : X → Prop} {s : Slots} {m : Mx} (hg : s t = b2 false) (h : pops G C (⟨d, p, none⟩ :: rest) K ⟨s, m⟩) : pops G C (⟨d, p, some (t, false)⟩ :: rest) K ⟨s, m⟩ := po_yes hg rfl h
theorem po_nt {p : POp} {d : Option Nat} {t : Nat} {rest : List POper} {K : X → Prop} {s : Slots} {m : Mx} (hg : s t = b2 false) (h : pops G C rest K ⟨put s d (.tup []), m⟩) : pops G C (⟨d, p, some (t, true)⟩ :: rest) K ⟨s, m⟩ := po_not hg rfl h
theorem po_nf {p : POp} {d : Option Nat} {t : Nat} {rest : List POper} {K : X → Prop} {s : Slots} {m : Mx} (hg : s t = b2 true) (h : pops G C rest K ⟨put s d (.tup []), m⟩) : pops G C (⟨d, p, some (t, false)⟩ :: rest) K ⟨s, m⟩ := po_not hg rfl h
theorem po_movt {n : Nat} {d : Option Nat} {rest : List POper} {K : X → Prop} {s : Slots} {m : Mx} (h : pops G C rest K ⟨put s d (s n), m⟩) : pops G C (⟨d, .mov (.t n), none⟩ :: rest) K ⟨s, m⟩ := po rfl rfl h
theorem po_movc {v : AV} {d : Option Nat} {rest : List POper} {K : X → Prop} {s : Slots} {m : Mx} (h : pops G C rest K ⟨put s d v, m⟩) : pops G C (⟨d, .mov (.c v), none⟩ :: rest) K ⟨s, m⟩ := po rfl rfl h
theorem po_ext {x : Arg} {n : Nat} {d : Option Nat} {rest : List POper} {K : X → Prop} {s : Slots} {m : Mx} {vs : List AV} (hx : x.ev G s = .tup vs) {v : AV} (hv : vs[n]? = some v) (h : pops G C rest K ⟨put s d v, m⟩) : pops G C (⟨d, .ext x n, none⟩ :: rest) K ⟨s, m⟩ := po rfl (by simp only [ev, hx, hv]) h
theorem po_len {x : Arg} {d : Option Nat} {rest : List POper} {K : X → Prop} {s : Slots} {m : Mx} {v : AV} (hx : x.ev G s = v) {rows : List (List Dat)} (hr : v.rows? = some rows) {n : Nat} (hn : rows.length = n) (h : pops G C rest K ⟨put s d (i64 n), m⟩) :
    pops G C (⟨d, .len x, none⟩ :: rest) K ⟨s, m⟩ := by
  refine po rfl ?_ h
  simp only [ev, hx]
  cases v <;> simp only [AV.rows?] at hr <;> (try (cases hr; done)) <;> simp [AV.rows?, hr, hn]
theorem po_callH {f : FuncId} {args : List Arg} {d : Option Nat} {rest : List POper} {K : X → Prop} {s : Slots} {m : Mx} {as : List AV} (hargs : (args.map fun (p : Arg) => p.ev G s).map AV.weak = as) {v : AV}
    (hc : Pure C f as v) (hh : m.holds m.st) (h : pops G C rest K ⟨put s d v, m.past m.st⟩) : pops G C (⟨d, .call f args, none⟩ :: rest) K ⟨s, m⟩ := by
  rw [pops_plain]
  unfold ostep
  simp only [nf, hargs]
  exact ⟨_, hc m.st, ⟨v, m.st, rfl, rfl⟩, fun r st' hr => by obtain ⟨rfl, rfl⟩ := hr; exact ⟨hh, h⟩⟩
theorem po_call {f : FuncId} {args : List Arg} {d : Option Nat} {rest : List POper} {K : X → Prop} {s : Slots} {m : Mx} {as : List AV} (hargs : (args.map fun (p : Arg) => p.ev G s).map AV.weak = as) {v : AV}
    (hc : Pure C f as v) (_ : ∀ b cells, False → m.st.box b = some cells) (h : pops G C rest K ⟨put s d v, m⟩) : pops G C (⟨d, .call0 f args, none⟩ :: rest) K ⟨s, m⟩ := by
  rw [pops_plain]
  unfold ostep
  simp only [nf, hargs]
  exact ⟨_, hc m.st, fun _ hL => ⟨v, m.st, ⟨rfl, rfl⟩, hL⟩, fun r st' hr => by obtain ⟨rfl, rfl⟩ := hr; exact h⟩
theorem po_callp {f : FuncId} {args : List Arg} {d : Option Nat} {rest : List POper} {K : X → Prop} {s : Slots} {m : Mx} {as : List AV} (hargs : (args.map fun (p : Arg) => p.ev G s).map AV.weak = as) {v : AV}
    (hc : Pure C f as v) (h : pops G C rest K ⟨put s d v, m⟩) : pops G C (⟨d, .callp f args, none⟩ :: rest) K ⟨s, m⟩ := by
  rw [pops_plain]
  unfold ostep
  simp only [nf, hargs]
  exact ⟨fun r => r = v, hc m.st, ⟨v, rfl⟩, fun r hr => by subst hr; exact h⟩
theorem po_load {ag : Bool} {sz : Nat} {x : Arg} {d : Option Nat} {rest : List POper} {K : X → Prop} {s : Slots} {m : Mx} {b o : Nat} (hx : x.ev G s = .d (.ptr b o)) {cells : List AV} (hb : m.st.box b = some cells) {v : AV}
    (hv : ldv ag sz (cells.drop o) = some v) (h : pops G C rest K ⟨put s d v, m⟩) : pops G C (⟨d, .load ag sz x false, none⟩ :: rest) K ⟨s, m⟩ := by
  rw [pops_plain]
  unfold ostep
  simp only [nf, hx]
  exact ⟨cells, hb, v, hv, h⟩
theorem po_loadE {ag st : Bool} {sz : Nat} {x : Arg} {d : Option Nat} {rest : List POper} {K : X → Prop} {s : Slots} {m : Mx} {cells : List Dat} (hx : x.ev G s = .elt cells) {v : AV}
    (hv : ldv ag sz (cells.map .d) = some v) (h : pops G C rest K ⟨put s d v, m⟩) : pops G C (⟨d, .load ag sz x st, none⟩ :: rest) K ⟨s, m⟩ := by
  rw [pops_plain]
  unfold ostep
  simp only [nf, hx]
  exact ⟨v, hv, h⟩
theorem po_box {sz : Nat} {x : Arg} {d : Option Nat} {rest : List POper} {K : X → Prop} {s : Slots} {m : Mx} {cells : List AV} (hx : (x.ev G s).cells = cells) (hl : (cells.length == sz) = true)
    (h : ∀ b, m.st.fresh b → pops G C rest K ⟨put s d (ptrAt b), m.setSt (m.st.setBox b cells)⟩) : pops G C (⟨d, .box sz x, none⟩ :: rest) K ⟨s, m⟩ := by
  rw [pops_plain]
  unfold ostep
  simp only [nf, hx]
  exact ⟨hl, h⟩
theorem po_alloc {z : List AV} {d : Option Nat} {rest : List POper} {K : X → Prop} {s : Slots} {m : Mx}
    (h : ∀ b, m.st.fresh b → pops G C rest K ⟨put s d (ptrAt b), m.setSt (m.st.setBox b z)⟩) : pops G C (⟨d, .alloc z, none⟩ :: rest) K ⟨s, m⟩ := ⟨rfl, h⟩
theorem po_store {sz : Nat} {x y : Arg} {d : Option Nat} {rest : List POper} {K : X → Prop} {s : Slots} {m : Mx} {b o : Nat} (hx : x.ev G s = .d (.ptr b o)) {cs : List AV} (hy : (y.ev G s).cells = cs) {cells : List AV}
    (hb : m.st.box b = some cells) (hl : cs.length = sz ∧ cs.all AV.sc = true) (ho : o + sz ≤ cells.length) {out : List AV} (hout : cells.take o ++ cs ++ cells.drop (o + sz) = out) (hh : m.holds (m.st.setBox b out))
    (h : pops G C rest K ⟨put s d .undef, m.past (m.st.setBox b out)⟩) : pops G C (⟨d, .store sz x y, none⟩ :: rest) K ⟨s, m⟩ := by
  rw [pops_plain]
  unfold ostep
  subst hout
  subst hy
  simp only [nf, hx]
  exact ⟨cells, hb, hl, ho, hh, h⟩

theorem pfin_ret {rs : List PRes} {R : AV → St → Prop} {s : Slots} {t : St} (h : ∃ r r' st', pret rs s t = some r ∧ (r' = r ∨ r' = r.weak) ∧ st'.le t ∧ R r' st') : pfin rs R .ret s t := h
/-- It ends with the state as it was, and this. -/
theorem pfin_pure {rs : List PRes} {s : Slots} {t st : St} {v : AV} (h : pret rs s t = some v) (ht : st.le t) : pfin rs (fun r st' => st' = st ∧ r = v) .ret s t := ⟨v, v, st, h, .inl rfl, ht, rfl, rfl⟩
theorem pfin_weak {rs : List PRes} {s : Slots} {t st : St} {u v : AV} (h : pret rs s t = some u) (hw : u.weak = v) (ht : st.le t) : pfin rs (fun r st' => st' = st ∧ r = v) .ret s t := ⟨u, v, st, h, .inr hw.symm, ht, rfl, rfl⟩

/-- A loop over numbers from 0. -/
theorem prange' {keep : Option (List Nat)} {id ti tc tx : Nat} {bnd : Arg} {body : PCode} {Q : PEx → Slots → St → Prop} {s : Slots} {t : St} (n : Nat) (hn : n < 2 ^ 63) (J : Nat → Slots → St → Prop)
    (h0 : J 0 (trim keep s) t) (hi : ∀ k s t, k ≤ n → J k s t → s ti = i64 k) (hl : ∀ k s t, k ≤ n → J k s t → bnd.ev G s = i64 n)
    (hend : ∀ s t, J n s t → Q .normal (put s (some tc) (b2 false)) t)
    (hstep : ∀ k, k < n → ∀ s t, J k s t → pwp G C body (PEx.next (fun s' t' => s' ti = i64 k ∧ J (k + 1) (trim keep (put (put s' (some tx) (i64 ((k + 1 : Nat) : Int))) (some ti) (i64 ((k + 1 : Nat) : Int)))) t') (PEx.inBlock id Q)) (put s (some tc) (b2 true)) t) :
    pwp G C (.block id (.loop keep (.seq (.region [⟨some tc, .bin .lss (.t ti) bnd, none⟩]) (.seq (.cond (.t tc) .skip (.exit id)) (.seq body (.region [⟨some tx, .bin .add (.t ti) (.c (.d (.int .i64 1))), none⟩, ⟨some ti, .mov (.t tx), none⟩])))))) Q s t := by
  refine ⟨n + 1, ?_⟩
  have key : ∀ j k, n - k = j → k ≤ n → ∀ s t, J k (trim keep s) t → prounds (fun Q s t => pwp G C (.seq (.region [⟨some tc, .bin .lss (.t ti) bnd, none⟩]) (.seq (.cond (.t tc) .skip (.exit id)) (.seq body (.region [⟨some tx, .bin .add (.t ti) (.c (.d (.int .i64 1))), none⟩, ⟨some ti, .mov (.t tx), none⟩])))) Q (trim keep s) t) (PEx.inBlock id Q) (j + 1) s t := by
    intro j
    induction j with
    | zero =>
      intro k hj hk s t hs
      obtain rfl : k = n := by omega
      show pops G C _ _ (pX (trim keep s) t)
      generalize trim keep s = s at hs
      refine po rfl (v := b2 false) ?_ (pnil (pnext (pseq (pcond_f (by simp [Arg.ev, put, b2]) ?_))))
      · simp only [ev, hl k s t hk hs]
        simp [Arg.ev, hi k s t hk hs, binEv, intBin, i64]
      · exact pexit_in (hend _ _ hs)
    | succ j ih =>
      intro k hj hk s t hs
      have hlt : k < n := by omega
      show pops G C _ _ (pX (trim keep s) t)
      generalize trim keep s = s at hs
      refine po rfl (v := b2 true) ?_ (pnil (pnext (pseq (pcond_t (by simp [Arg.ev, put, b2]) (pskip (pnext (pseq ?_)))))))
      · simp only [ev, hl k s t hk hs]
        simp [Arg.ev, hi k s t hk hs, binEv, intBin, i64, hlt]
      · refine pwp_mono ?_ (hstep k hlt s t hs)
        rintro e s' t' he
        cases e with
        | normal =>
          obtain ⟨h1, h2⟩ := he
          have hw : IntKind.i64.wrap ((k : Int) + 1) = ((k + 1 : Nat) : Int) := IntWalk.i64_in _ (by omega)
          refine pnext (pregion (po rfl (v := i64 ((k + 1 : Nat) : Int)) ?_ (po rfl (v := i64 ((k + 1 : Nat) : Int)) ?_ (pnil (pnext ?_)))))
          · simp only [ev, Arg.ev, h1, binEv, i64, intBin, hw]
            simp
          · simp [ev, Arg.ev, put]
          · exact ih (k + 1) (by omega) (by omega) _ _ h2
        | exit j => exact he
        | ret => exact he
  exact key n 0 rfl (Nat.zero_le _) s t h0

theorem prange {keep : Option (List Nat)} {id ti tc tx : Nat} {bnd : Arg} {body : PCode} {Q : PEx → Slots → St → Prop} {s : Slots} {t : St} (n : Nat) (hn : n < 2 ^ 63) (S : Nat → Slots) (T : Nat → St) (I : Nat → Prop) (hI : I 0)
    (h0 : trim keep s = S 0) (ht : t = T 0) (hi : ∀ k, S k ti = i64 k) (hl : ∀ k, bnd.ev G (S k) = i64 n)
    (hend : I n → Q .normal (put (S n) (some tc) (b2 false)) (T n)) 
    (hstep : ∀ k, k < n → I k → pwp G C body (PEx.next (fun s' t' => I (k + 1) ∧ t' = T (k + 1) ∧ s' ti = i64 k ∧ trim keep (put (put s' (some tx) (i64 ((k + 1 : Nat) : Int))) (some ti) (i64 ((k + 1 : Nat) : Int))) = S (k + 1)) (PEx.inBlock id Q)) (put (S k) (some tc) (b2 true)) (T k)) :
    pwp G C (.block id (.loop keep (.seq (.region [⟨some tc, .bin .lss (.t ti) bnd, none⟩]) (.seq (.cond (.t tc) .skip (.exit id)) (.seq body (.region [⟨some tx, .bin .add (.t ti) (.c (.d (.int .i64 1))), none⟩, ⟨some ti, .mov (.t tx), none⟩])))))) Q s t := by
  refine prange' n hn (fun k s t => s = S k ∧ t = T k ∧ I k) ⟨h0, ht, hI⟩ (fun k s t _ h => by rw [h.1]; exact hi k) (fun k s t _ h => by rw [h.1]; exact hl k) ?_ ?_
  · rintro s t ⟨rfl, rfl, h⟩; exact hend h
  · rintro k hk s t ⟨rfl, rfl, h⟩
    refine pwp_mono ?_ (hstep k hk h)
    rintro e s' t' he
    cases e with
    | normal => exact ⟨he.2.2.1, he.2.2.2, he.2.1, he.1⟩
    | exit j => exact he
    | ret => exact he

theorem St.dropTok_setTok {s : St} {b : Nat} (k : Tok) (h : s.tok b = none) : (s.setTok b k).dropTok b = s := by
  refine St.ext' rfl (funext fun c => ?_)
  simp only [St.tok_dropTok, St.tok_setTok]
  split
  · rename_i e; rw [e, h]
  · rfl
theorem St.setTok_setTok {s : St} {b : Nat} (k j : Tok) : (s.setTok b k).setTok b j = s.setTok b j := by
  refine St.ext' rfl (funext fun c => ?_)
  simp only [St.tok_setTok]
  split <;> rfl

theorem fresh_ne {s : St} {b c : Nat} {l : List AV} (h : (s.setBox b l).fresh c) : b ≠ c := by
  intro e
  have := h.1
  rw [St.box_setBox, if_pos e.symm] at this
  cases this

theorem pres_cell {s : Slots} {t : St} {a : Nat} {ag : Bool} {sz b o : Nat} {cells : List AV} {v : AV} (ha : s a = .d (.ptr b o)) (hb : t.box b = some cells) (hv : ldv ag sz (cells.drop o) = some v) : PRes.ev s t (.cell a ag sz) = some v := by
  simp only [PRes.ev, ha, hb, Option.bind_some]; exact hv
theorem pret_one {s : Slots} {t : St} {r1 : PRes} {v1 : AV} (h1 : r1.ev s t = some v1) : pret [r1] s t = some v1 := by simp [pret, h1, pret1]
theorem pret_two {s : Slots} {t : St} {r1 r2 : PRes} {v1 v2 : AV} (h1 : r1.ev s t = some v1) (h2 : r2.ev s t = some v2) : pret [r1, r2] s t = some (.tup [v1, v2]) := by simp [pret, h1, h2, pret1]
theorem pret_three {s : Slots} {t : St} {r1 r2 r3 : PRes} {v1 v2 v3 : AV} (h1 : r1.ev s t = some v1) (h2 : r2.ev s t = some v2) (h3 : r3.ev s t = some v3) : pret [r1, r2, r3] s t = some (.tup [v1, v2, v3]) := by simp [pret, h1, h2, h3, pret1]

/-- A list that is being built, beside a state. -/
def Vec (st t : St) (v : AV) (rows : List (List Dat)) (sz : Nat) : Prop :=
  (v = .full rows ∧ t = st) ∨ ∃ b cap, v = .own b rows cap ∧ st.fresh b ∧ t = st.setTok b ⟨rows.length, cap, sz, none⟩
theorem Vec.le {st t : St} {v : AV} {rows : List (List Dat)} {sz : Nat} (h : Vec st t v rows sz) : st.le t := by
  rcases h with ⟨_, rfl⟩ | ⟨b, cap, _, hb, rfl⟩
  · exact .refl _
  · exact (St.le.refl _).setTok _ hb.2
theorem Vec.weak {st t : St} {v : AV} {rows : List (List Dat)} {sz : Nat} (h : Vec st t v rows sz) : v.weak = .d (.sl rows) := by
  rcases h with ⟨rfl, _⟩ | ⟨b, cap, rfl, _, _⟩ <;> rfl
theorem Vec.rows {st t : St} {v : AV} {rows : List (List Dat)} {sz : Nat} (h : Vec st t v rows sz) : v.rows? = some rows := by
  rcases h with ⟨rfl, _⟩ | ⟨b, cap, rfl, _, _⟩ <;> rfl
theorem Vec.dat {st t : St} {v : AV} {rows : List (List Dat)} {sz : Nat} (h : Vec st t v rows sz) : v.dat? = some (.sl rows) := by
  rcases h with ⟨rfl, _⟩ | ⟨b, cap, rfl, _, _⟩ <;> rfl

theorem po_app {sz bytes : Nat} {x y : Arg} {d : Option Nat} {rest : List POper} {K : X → Prop} {s : Slots} {m : Mx} {st : St} {v : AV} {rows news : List (List Dat)} (hx : x.ev G s = v) (hv : Vec st m.st v rows sz) (hy : (y.ev G s).rows? = some news)
    (hr : ∀ r ∈ rows, r.length = sz) (hn : ∀ r ∈ news, r.length = sz) (hfit : (rows.length + news.length) * bytes ≤ 140737488355328)
    (h : ∀ v' t', Vec st t' v' (rows ++ news) sz → pops G C rest K ⟨put s d v', m.setSt t'⟩) : pops G C (⟨d, .app sz bytes x y, none⟩ :: rest) K ⟨s, m⟩ := by
  rw [pops_plain]
  unfold ostep
  simp only [nf, hx, hy]
  refine ⟨hn, ?_⟩
  rcases hv with ⟨rfl, e⟩ | ⟨b, cap, rfl, hb, e⟩
  · refine ⟨hr, hfit, ?_⟩
    split
    · rename_i hne
      subst hne
      rw [List.append_nil] at h
      exact h _ m.st (.inl ⟨rfl, e⟩)
    · intro b cap hfb
      rw [e] at hfb ⊢
      refine h _ _ (.inr ⟨b, cap, rfl, hfb, ?_⟩)
      rw [List.length_append]
  · refine ⟨by rw [e]; simp, hr, hfit, ?_, ?_⟩
    · rw [e, St.setTok_setTok]
      refine h _ _ (.inr ⟨b, cap, rfl, hb, ?_⟩)
      rw [List.length_append]
    · intro b' cap' hfb
      rw [e] at hfb ⊢
      rw [St.dropTok_setTok _ hb.2]
      refine h _ _ (.inr ⟨b', cap', rfl, ?_, ?_⟩)
      · refine ⟨hfb.1, ?_⟩
        have := hfb.2
        rw [St.tok_setTok] at this
        split at this
        · cases this
        · exact this
      · rw [List.length_append]

end
end Go.Pv
