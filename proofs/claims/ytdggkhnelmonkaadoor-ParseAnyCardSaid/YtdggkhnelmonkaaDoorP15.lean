/- Code by value, and functions. No condition. -/
import Derived.Test.YtdggkhnelmonkaaDoorP14
import Derived.Scope
import Derived.LoopN
namespace Go.Pv

inductive PEx where
  | normal
  | exit (id : Nat)
  | ret

def pX (s : Slots) (t : St) : X := ⟨s, ⟨t, fun _ _ => False, fun _ => False⟩⟩

def PEx.next (K : Slots → St → Prop) (Q : PEx → Slots → St → Prop) : PEx → Slots → St → Prop
  | .normal, s, t => K s t
  | .exit id, s, t => Q (.exit id) s t
  | .ret, s, t => Q .ret s t
def PEx.inBlock (id : Nat) (Q : PEx → Slots → St → Prop) : PEx → Slots → St → Prop
  | .normal, s, t => Q .normal s t
  | .exit j, s, t => if j = id then Q .normal s t else Q (.exit j) s t
  | .ret, s, t => Q .ret s t
theorem PEx.next_mono {K K' : Slots → St → Prop} {Q Q' : PEx → Slots → St → Prop} (hk : ∀ s t, K s t → K' s t) (h : ∀ e s t, Q e s t → Q' e s t) : ∀ e s t, PEx.next K Q e s t → PEx.next K' Q' e s t
  | .normal, _, _, k => hk _ _ k
  | .exit _, _, _, k => h _ _ _ k
  | .ret, _, _, k => h _ _ _ k
theorem PEx.inBlock_mono {id : Nat} {Q Q' : PEx → Slots → St → Prop} (h : ∀ e s t, Q e s t → Q' e s t) : ∀ e s t, PEx.inBlock id Q e s t → PEx.inBlock id Q' e s t
  | .normal, _, _, k => h _ _ _ k
  | .exit j, s, t, k => by
    simp only [PEx.inBlock] at k ⊢
    split
    · rename_i e; rw [if_pos e] at k; exact h _ _ _ k
    · rename_i e; rw [if_neg e] at k; exact h _ _ _ k
  | .ret, _, _, k => h _ _ _ k

/-- What is kept from round to round: of all other slots nobody knows what they hold. -/
def trim : Option (List Nat) → Slots → Slots
  | none, s => s
  | some l, s => l.foldr (fun t acc => put acc (some t) (s t)) (fun _ => .undef)
theorem trim_get (l : List Nat) (s : Slots) (u : Nat) : trim (some l) s u = s u ∨ trim (some l) s u = .undef := by
  simp only [trim]
  induction l with
  | nil => exact .inr rfl
  | cons t l ih =>
    simp only [List.foldr_cons, put]
    by_cases h : u = t
    · rw [if_pos h, h]; exact .inl rfl
    · rw [if_neg h]; exact ih

def prounds (body : (PEx → Slots → St → Prop) → Slots → St → Prop) (Q : PEx → Slots → St → Prop) : Nat → Slots → St → Prop
  | 0, _, _ => False
  | n + 1, s, t => body (PEx.next (prounds body Q n) Q) s t

/-- A row that nobody writes any more. -/
def AV.frz1 (b : Nat) (rows : List (List Dat)) : AV → AV
  | .bsl c off n cap => if c = b ∧ off = 0 ∧ n = rows.length then .d (.sl rows) else .bsl c off n cap
  | v => v
def AV.frz (b : Nat) (rows : List (List Dat)) : AV → AV
  | .agg cells => .agg (cells.map (AV.frz1 b rows))
  | v => v.frz1 b rows
def St.frz (t : St) (b : Nat) (rows : List (List Dat)) (S : Nat → Bool) : St where
  box := fun c => if c = b then none else (t.box c).map fun cells => if S c = true then cells.map (AV.frz1 b rows) else cells
  tok := t.tok
  fin := by
    obtain ⟨N, h⟩ := t.fin
    refine ⟨N, fun c hc => ⟨?_, (h c hc).2⟩⟩
    rw [(h c hc).1]
    split <;> rfl
/-- A row that may grow from here on. -/
def AV.own1 (b : Nat) (rows : List (List Dat)) (k : Nat) : AV → AV
  | .bsl c off n cap => if c = b ∧ off = 0 ∧ n = rows.length ∧ cap = k then .own b rows k else .bsl c off n cap
  | v => v
def AV.ownA (b : Nat) (rows : List (List Dat)) (k : Nat) : AV → AV
  | .agg cells => .agg (cells.map (AV.own1 b rows k))
  | v => v.own1 b rows k
def St.own (t : St) (b : Nat) (rows : List (List Dat)) (k sz : Nat) (S : Nat → Bool) : St where
  box := fun c => if c = b then none else (t.box c).map fun cells => if S c = true then cells.map (AV.own1 b rows k) else cells
  tok := fun c => if c = b then some ⟨rows.length, k, sz, none⟩ else t.tok c
  fin := by
    obtain ⟨N, h⟩ := t.fin
    refine ⟨max N (b + 1), fun c hc => ⟨?_, ?_⟩⟩
    · rw [(h c (by omega)).1]
      split <;> rfl
    · rw [if_neg (by omega)]
      exact (h c (by omega)).2
/-- A variable that nobody writes any more: what points to it. -/
def AV.elt1 (b : Nat) (ds : List Dat) : AV → AV
  | .d (.ptr c o) => if c = b then .elt (ds.drop o) else .d (.ptr c o)
  | v => v
/-- From here on some rows are data; some may grow. -/
inductive Frz : Slots → St → Slots → St → Prop where
  | refl (s : Slots) (t : St) : Frz s t s t
  | step {s s' : Slots} {t t' : St} (b sz : Nat) (rows : List (List Dat)) (rest cells : List AV) (S : Nat → Bool) (hs : ∀ r ∈ rows, r.length = sz) (hb : t.box b = some cells) (hw : cells.map AV.weak1 = rows.flatten.map .d ++ rest)
      (k : Frz (fun i => (s i).frz b rows) (t.frz b rows S) s' t') : Frz s t s' t'
  | own {s s' : Slots} {t t' : St} (b sz cap : Nat) (rows : List (List Dat)) (rest cells : List AV) (S : Nat → Bool) (hs : ∀ r ∈ rows, r.length = sz) (hb : t.box b = some cells) (hw : cells.map AV.weak1 = rows.flatten.map .d ++ rest) (hl : cells.length = cap * sz) (hc : rows.length ≤ cap)
      (k : Frz (fun i => (s i).ownA b rows cap) (t.own b rows cap sz S) s' t') : Frz s t s' t'
  | elt {s s' : Slots} {t t' : St} (b : Nat) (ds : List Dat) (cells : List AV) (hb : t.box b = some cells) (hw : cells.map AV.weak1 = ds.map .d)
      (k : Frz (fun i => (s i).elt1 b ds) (t.dropBox b) s' t') : Frz s t s' t'

def AV.isIfc : AV → Bool
  | .d (.ifc _ _) => true
  | .d (.ifa _ _) => true
  | _ => false
/-- What the code leaves, by value. -/
def pwp (G : Glob) (C : CallsP) : PCode → (PEx → Slots → St → Prop) → Slots → St → Prop
  | .skip, Q, s, t => Q .normal s t
  | .region pl, Q, s, t => pops G C pl (fun x => Q .normal x.sl x.m.st) (pX s t)
  | .seq a b, Q, s, t => pwp G C a (PEx.next (pwp G C b Q) Q) s t
  | .cond c a b, Q, s, t => match c.ev G s with
    | .d (.bool true) => pwp G C a Q s t
    | .d (.bool false) => pwp G C b Q s t
    | _ => False
  | .block id c, Q, s, t => pwp G C c (PEx.inBlock id Q) s t
  | .loop k c, Q, s, t => ∃ n, prounds (fun Q s t => pwp G C c Q (trim k s) t) Q n s t
  | .keep l c, Q, s, t => ∃ s' t', Frz (trim (some l) s) t s' t' ∧ pwp G C c Q s' t'
  | .exit id, Q, s, t => Q (.exit id) s t
  | .ret, Q, s, t => Q .ret s t
  | .die n pl x, _, s, t => pops G C pl (fun X => (x.ev G X.sl).isIfc = true ∧ C n [x.ev G X.sl] X.m.st fun _ _ => False) (pX s t)

theorem pops_mono {G : Glob} {C : CallsP} : ∀ {l : List POper} {K K' : X → Prop} {x : X}, (∀ x, K x → K' x) → pops G C l K x → pops G C l K' x
  | [], _, _, _, h, hh => h _ hh
  | _ :: _, _, _, _, h, hh => pstep_mono (fun _ k => pops_mono h k) hh

theorem prounds_mono {body : (PEx → Slots → St → Prop) → Slots → St → Prop} (hb : ∀ (Q Q' : PEx → Slots → St → Prop) (s : Slots) (t : St), (∀ e s t, Q e s t → Q' e s t) → body Q s t → body Q' s t)
    {Q Q' : PEx → Slots → St → Prop} (h : ∀ e s t, Q e s t → Q' e s t) : ∀ {n : Nat} {s : Slots} {t : St}, prounds body Q n s t → prounds body Q' n s t
  | 0, _, _, hh => hh
  | _ + 1, _, _, hh => hb _ _ _ _ (PEx.next_mono (fun _ _ k => prounds_mono hb h k) h) hh

theorem pwp_mono {G : Glob} {C : CallsP} : ∀ {c : PCode} {Q Q' : PEx → Slots → St → Prop} {s : Slots} {t : St}, (∀ e s t, Q e s t → Q' e s t) → pwp G C c Q s t → pwp G C c Q' s t
  | .skip, _, _, _, _, h, hh => h _ _ _ hh
  | .region _, _, _, _, _, h, hh => pops_mono (fun _ k => h _ _ _ k) hh
  | .seq a b, _, _, _, _, h, hh => pwp_mono (c := a) (PEx.next_mono (fun _ _ k => pwp_mono (c := b) h k) h) hh
  | .cond c a b, _, _, s, _, h, hh => by
    simp only [pwp] at hh ⊢
    split at hh
    · exact pwp_mono (c := a) h hh
    · exact pwp_mono (c := b) h hh
    · exact hh.elim
  | .block _ c, _, _, _, _, h, hh => pwp_mono (c := c) (PEx.inBlock_mono h) hh
  | .loop k c, _, _, _, _, h, ⟨n, hh⟩ => ⟨n, prounds_mono (body := fun Q s t => pwp _ _ c Q (trim k s) t) (fun _ _ _ _ g k => pwp_mono (c := c) g k) h hh⟩
  | .keep _ c, _, _, _, _, h, ⟨s', t', k, hh⟩ => ⟨s', t', k, pwp_mono (c := c) h hh⟩
  | .exit _, _, _, _, _, h, hh => h _ _ _ hh
  | .ret, _, _, _, _, h, hh => h _ _ _ hh
  | .die _ _ _, _, _, _, _, _, hh => hh

section
variable {D : Fr} {E : PE} {P : Program} {G : Glob} {N : Nat} {s0 : St} {M0 : Mem} {w0 : World}

/-- Where the machine stands, since the start. -/
def Rel (D : Fr) (G : Glob) (N : Nat) (s0 : St) (M0 : Mem) (w0 : World) (sl : Slots) (st : St) (a : Act) (w : World) : Prop :=
  ∃ M, (WRel G M st w ∧ (∀ t, AVRel M (sl t) (a.tmps.getD t undef)) ∧ a.tmps.size = N ∧ D.ok a) ∧ Frame s0 st M0 M w0 w

/-- What a panic is to bring. -/
def PanOk (D : Fr) (G : Glob) (E : PE) (s0 : St) (M0 : Mem) (w0 : World) (Qm : Exit → Act → World → Prop) : Prop :=
  ∀ v r st' M' a w', WRel G M' st' w' → AVRel M' r v → D.ok a → Frame s0 st' M0 M' w0 w' → E.E r st' → Qm (.panic [{ v := v, recovered := false }]) a w'

theorem guard_wants {ops : Array Oper} {o : Oper} {po : POper} {st pure : Bool} {km : Nat} (hc : compOper P st pure km ops o = some po) {M : Mem} {sl : Slots} {a : Act}
    (hs : ∀ t, AVRel M (sl t) (a.tmps.getD t undef)) (hn : ∀ t, t < a.tmps.size ∨ (a.tmps.getD t undef) = undef) {b : Bool} (hw : wants sl po.guard = some b) :
    Region.wanted o (yielded ops a.tmps) = b ∧ comp2 P st pure km o = some po.op ∧ po.dst = o.dst := by
  unfold compOper at hc
  split at hc <;> (try (cases hc; done))
  rename_i p hp
  split at hc
  · rename_i hg
    cases hc
    simp only [wants] at hw
    cases hw
    exact ⟨by simp [Region.wanted, hg], hp, rfl⟩
  · rename_i j want hg
    split at hc <;> cases hc
    rename_i t ht
    refine ⟨?_, hp, rfl⟩
    simp only [wants] at hw
    have h1 := hs t
    split at hw <;> cases hw
    · rename_i c e
      rw [e] at h1
      have h2 := inv_bool h1
      have hlt : t < a.tmps.size := by
        rcases hn t with h | h
        · exact h
        · rw [h] at h2; cases h2
      have h3 : a.tmps[t]? = some (.bool c) := by
        rw [Array.getD_eq_getD_getElem?, Array.getElem?_eq_getElem hlt] at h2
        rw [Array.getElem?_eq_getElem hlt]; exact congrArg some h2
      simp [Region.wanted, hg, yielded, ht, h3]
    · rename_i e
      rw [e] at h1
      obtain ⟨cs, h2, h3⟩ := inv_tup h1
      have : cs = [] := List.eq_nil_of_length_eq_zero h3.1
      subst this
      have h4 : ∀ b, a.tmps[t]? ≠ some (.bool b) := by
        intro b hb
        rw [Array.getD_eq_getD_getElem?, hb] at h2
        cases h2
      have h5 : yielded ops a.tmps j = none := by
        unfold yielded
        rw [ht, Option.bind_some]
        split
        · rename_i b hb; exact absurd hb (h4 b)
        · rfl
      simp [Region.wanted, hg, h5]

theorem step_wpOp {ops : Array Oper} {Qe : Exit → Act → World → Prop} (hP : PanOk D G E s0 M0 w0 Qe) {i : Nat} {o : Oper} (ho : ops[i]? = some o) {po : POper} {st pure : Bool} {km : Nat} (hc : compOper P st pure km ops o = some po)
    (hd : ∀ t, po.dst = some t → t < N ∧ ∀ p ∈ D.pin, p.1 ≠ t) {x : X} {a : Act} {w : World} (hR : Rel D G N s0 M0 w0 x.sl x.m.st a w) {K : X → Prop} (h : pstep G (PCallsE P G E) po K x) :
    wpOp P ops Qe i (fun a' w' => ∃ x', Rel D G N s0 M0 w0 x'.sl x'.m.st a' w' ∧ K x') a w := by
  obtain ⟨M, ⟨hW, hs, hn, hdf⟩, hF⟩ := hR
  have hx : XRel D G M N x a w := ⟨hW, hs, hn, hdf⟩
  have hn' : ∀ t, t < a.tmps.size ∨ (a.tmps.getD t undef) = undef := fun t => by
    by_cases h : t < a.tmps.size
    · exact .inl h
    · right; rw [Array.getD_eq_getD_getElem?, Array.getElem?_eq_none (by omega)]; rfl
  unfold wpOp
  rw [ho]
  simp only
  unfold pstep at h
  split at h
  · rename_i hw
    obtain ⟨h1, h2, h3⟩ := guard_wants hc hs hn' hw
    rw [if_pos h1]
    left
    refine Oper.wp_mono ?_ (op_sound2 hx h2 (fun v r st' M' w' k1 k2 k3 k4 => hP v r st' M' a w' k1 k2 hdf (hF.trans k3) k4) h)
    rintro a' w' ⟨v, r, m', M', rfl, e1, e2, e3, hk⟩
    rw [h3] at hk hd
    have := hx.put (m' := m') (d := o.dst) e3.mle e1 e2 hd
    exact ⟨_, ⟨M', ⟨this.w, this.s, this.n, this.d⟩, hF.trans e3⟩, hk⟩
  · rename_i hw
    obtain ⟨h1, h2, h3⟩ := guard_wants hc hs hn' hw
    rw [if_neg (by simp [h1])]
    rw [h3] at h hd
    have hu : AVRel M (.tup []) undef := .tup [] [] rfl (fun i h => by simp at h)
    have := hx.put (m' := x.m) (d := o.dst) (.refl _) hW hu hd
    exact ⟨_, ⟨M, ⟨this.w, this.s, this.n, this.d⟩, hF⟩, h⟩
  · exact h.elim

def dstsOk (D : Fr) (N : Nat) (pl : List POper) : Prop := ∀ o ∈ pl, ∀ t, o.dst = some t → t < N ∧ ∀ p ∈ D.pin, p.1 ≠ t
def POper.misses (l : List Nat) (o : POper) : Bool := match o.dst with | some d => !l.contains d | none => true
/-- Slots that the code doesn't write. -/
def PCode.misses (l : List Nat) : PCode → Bool
  | .region pl => pl.all (POper.misses l)
  | .die _ pl _ => pl.all (POper.misses l)
  | .seq a b => a.misses l && b.misses l
  | .cond _ a b => a.misses l && b.misses l
  | .block _ a => a.misses l
  | .loop _ a => a.misses l
  | .keep _ a => a.misses l
  | .skip => true
  | .exit _ => true
  | .ret => true
theorem PCode.misses_nil : ∀ c : PCode, c.misses [] = true
  | .region pl => List.all_eq_true.2 fun o _ => by unfold POper.misses; split <;> rfl
  | .die _ pl _ => List.all_eq_true.2 fun o _ => by unfold POper.misses; split <;> rfl
  | .seq a b => by simp [PCode.misses, a.misses_nil, b.misses_nil]
  | .cond _ a b => by simp [PCode.misses, a.misses_nil, b.misses_nil]
  | .block _ a => a.misses_nil
  | .loop _ a => a.misses_nil
  | .keep _ a => a.misses_nil
  | .skip => rfl
  | .exit _ => rfl
  | .ret => rfl
theorem dstsOk_of {D : Fr} {N : Nat} {pl : List POper} (h1 : (pl.all fun o => match o.dst with | some d => decide (d < N) | none => true) = true) (h2 : pl.all (POper.misses (D.pin.map (·.1))) = true) : dstsOk D N pl := by
  intro o ho t ht
  have k1 := List.all_eq_true.1 h1 o ho
  have k2 := List.all_eq_true.1 h2 o ho
  rw [ht] at k1
  simp only [POper.misses, ht] at k2
  refine ⟨by simpa using k1, fun p hp e => ?_⟩
  subst e
  have : (D.pin.map (·.1)).contains p.1 = true := by rw [List.contains_iff_mem]; exact List.mem_map_of_mem hp
  rw [this] at k2
  cases k2

theorem list_wp {ops : Array Oper} {Q : Exit → Act → World → Prop} (hP : PanOk D G E s0 M0 w0 Q) {st pure : Bool} {km : Nat} {K : X → Prop} {tl : List Nat} (hK : ∀ (a : Act) (w : World) (x : X), Rel D G N s0 M0 w0 x.sl x.m.st a w → K x → wpOps P ops Q tl a w) :
    ∀ (l : List Oper) (k : Nat) (pl : List POper), l.mapM (compOper P st pure km ops) = some pl → (∀ j, j < l.length → l[j]? = ops[k + j]?) → dstsOk D N pl → ∀ (x : X) (a : Act) (w : World), Rel D G N s0 M0 w0 x.sl x.m.st a w →
      pops G (PCallsE P G E) pl K x → wpOps P ops Q (List.range' k l.length ++ tl) a w
  | [], k, pl, hm, _, _, x, a, w, hR, h => by
    simp at hm; subst hm
    simp only [List.length_nil, List.range'_zero, List.nil_append]
    exact hK _ _ _ hR h
  | o :: l, k, pl, hm, hl, hd, x, a, w, hR, h => by
    simp only [List.mapM_cons, Option.pure_def, Option.bind_eq_bind, Option.bind_eq_some_iff, Option.some.injEq] at hm
    obtain ⟨po, hpo, pl', hpl, rfl⟩ := hm
    rw [List.length_cons, List.range'_succ, List.cons_append, wpOps_cons]
    have ho : ops[k]? = some o := by have := hl 0 (by simp); simpa using this.symm
    refine wpOp_mono ?_ (step_wpOp hP ho hpo (hd po (by simp)) hR h)
    rintro a' w' ⟨x', hR', hk⟩
    exact list_wp hP hK l (k + 1) pl' hpl (fun j hj => by have := hl (j + 1) (by simpa using hj); simpa [Nat.add_assoc, Nat.add_comm 1 j] using this) (fun o ho => hd o (by simp [ho])) x' a' w' hR' hk

theorem any_wp {ops : Array Oper} {pl : List POper} {Q : Exit → Act → World → Prop} (hP : PanOk D G E s0 M0 w0 Q) {st pure : Bool} {km : Nat} (hm : ops.toList.mapM (compOper P st pure km ops) = some pl) (hd : dstsOk D N pl) {K : X → Prop}
    (hK : ∀ (a : Act) (w : World) (x : X), Rel D G N s0 M0 w0 x.sl x.m.st a w → K x → Q .normal a w) :
    ∀ (fuel : Nat) (listed : Array Bool) (x : X) (a : Act) (w : World), Rel D G N s0 M0 w0 x.sl x.m.st a w → pAny G (PCallsE P G E) ops pl K fuel listed x → wpAny P .any ops Q fuel listed a w
  | 0, listed, x, a, w, hR, h => ⟨h.1, hK _ _ _ hR h.2⟩
  | fuel + 1, listed, x, a, w, hR, h => by
    refine ⟨fun e => hK _ _ _ hR (h.1 e), fun i hi => ?_⟩
    have h2 := h.2 i hi
    obtain ⟨hl, hg⟩ := mapM_some_iff hm
    unfold pOp at h2
    split at h2
    · rename_i e
      have : ops[i]? = none := by
        rw [List.getElem?_eq_none_iff] at e
        rw [Array.getElem?_eq_none]
        simpa [hl] using e
      unfold wpOp
      rw [this]
      exact any_wp hP hm hd hK fuel _ x a w hR h2
    · rename_i po e
      obtain ⟨hlt, rfl⟩ := List.getElem?_eq_some_iff.1 e
      have hlt' : i < ops.toList.length := by rw [← hl]; exact hlt
      have ho : ops[i]? = some ops.toList[i] := by rw [← Array.getElem?_toList, List.getElem?_eq_getElem hlt']
      refine wpOp_mono ?_ (step_wpOp hP ho (hg i hlt' hlt) (hd _ (List.getElem_mem hlt)) hR h2)
      rintro a' w' ⟨x', hR', hk⟩
      exact any_wp hP hm hd hK fuel _ x' a' w' hR' hk

theorem put_no (s : Slots) (v : AV) : put s none v = s := rfl
theorem nop_step {C : CallsP} {K : X → Prop} {x : X} (h : pstep G C nopO K x) : K x := by
  simp only [pstep, nopO, wants, ostep, nf, NF.step, put_no] at h
  obtain ⟨v, _, h⟩ := h
  exact h
theorem nop_step' {C : CallsP} {K : X → Prop} {x : X} (h : K x) : pstep G C nopO K x := by
  simp only [pstep, nopO, wants, ostep, nf, NF.step, put_no]
  exact ⟨_, rfl, h⟩
theorem pops_snoc_nop {C : CallsP} {K : X → Prop} : ∀ {pl : List POper} {x : X}, pops G C pl K x → pops G C (pl ++ [nopO]) K x
  | [], _, h => nop_step' h
  | _ :: _, _, h => pstep_mono (fun _ h => pops_snoc_nop h) h
theorem any_wpD {ops : Array Oper} {pl : List POper} {Q : Exit → Act → World → Prop} (hP : PanOk D G E s0 M0 w0 Q) {st pure : Bool} {km : Nat} (hm : ops.toList.dropLast.mapM (compOper P st pure km ops) = some pl) (hd : dstsOk D N pl) {K : X → Prop}
    (hF : ∀ (R : Act → World → Prop) (a : Act) (w : World) (x : X), Rel D G N s0 M0 w0 x.sl x.m.st a w → K x → wpOp P ops Q pl.length R a w) (hsz : ops.size = pl.length + 1) (hfw : fwdB ops = true) {m : Array Nat}
    (hmk : ∀ j i, (m.getD j 0).testBit i = true → ∃ o, ops[j]? = some o ∧ ∃ e ∈ o.after, Region.binds .any e = true ∧ (e.on = i ∨ e.on < j ∧ (m.getD e.on 0).testBit i = true)) (hall : ∀ i, i < pl.length → (m.getD pl.length 0).testBit i = true) :
    ∀ (fuel : Nat) (listed : Array Bool) (x : X) (a : Act) (w : World), Closed ops listed → listed.getD pl.length true = false → Rel D G N s0 M0 w0 x.sl x.m.st a w → pAny G (PCallsE P G E) ops (pl ++ [nopO]) K fuel listed x → wpAny P .any ops Q fuel listed a w
  | 0, listed, x, a, w, _, hun, _, h => absurd h.1 (ready_ne hfw _ _ (Nat.le_refl _) (by omega) hun)
  | fuel + 1, listed, x, a, w, hcl, hun, hR, h => by
    refine ⟨fun e => absurd e (ready_ne hfw _ _ (Nat.le_refl _) (by omega) hun), fun i hi => ?_⟩
    have h2 := h.2 i hi
    by_cases hin : i = pl.length
    · subst hin
      have hk : K x := by
        unfold pOp at h2
        rw [List.getElem?_append_right (Nat.le_refl _), Nat.sub_self] at h2
        have h3 := nop_step h2
        cases fuel with
        | zero => exact h3.2
        | succ fuel => exact h3.1 (ready_done hmk hcl hi hsz hall)
      exact hF _ a w x hR hk
    · obtain ⟨hun2, oj, hoj, _⟩ := mem_ready.1 hi
      have his : i < ops.size := (Array.getElem?_eq_some_iff.1 hoj).1
      have hlt : i < pl.length := by omega
      obtain ⟨hl, hg⟩ := mapM_some_iff hm
      have hlt' : i < ops.toList.dropLast.length := by rw [← hl]; exact hlt
      have ho : ops[i]? = some ops.toList.dropLast[i] := by
        rw [← Array.getElem?_toList, List.getElem_dropLast, List.getElem?_eq_getElem]
      unfold pOp at h2
      rw [List.getElem?_append_left hlt, List.getElem?_eq_getElem hlt] at h2
      refine wpOp_mono ?_ (step_wpOp hP ho (hg i hlt' hlt) (hd _ (List.getElem_mem hlt)) hR h2)
      rintro a' w' ⟨x', hR', hk⟩
      exact any_wpD hP hm hd hF hsz hfw hmk hall fuel _ x' a' w' (hcl.ready hi) (by rw [getD_set_ne true hin]; exact hun) hR' hk

/-- Which exits of the machine's code. -/
def mEx : PEx → Exit
  | .normal => .normal
  | .exit id => .exit id
  | .ret => .ret

theorem Rel.draw {sl : Slots} {st : St} {a : Act} {w : World} (h : Rel D G N s0 M0 w0 sl st a w) : Rel D G N s0 M0 w0 sl st a { w with drawn := w.drawn + 1 } := by
  obtain ⟨M, ⟨hW, hs⟩, hF⟩ := h
  exact ⟨M, ⟨hW.of_heap rfl, hs⟩, ⟨hF.os, hF.tape, hF.output, hF.size, hF.blk, hF.mem, hF.mle, hF.domB⟩⟩

theorem Rel.trim {sl : Slots} {st : St} {a : Act} {w : World} (h : Rel D G N s0 M0 w0 sl st a w) (k : Option (List Nat)) : Rel D G N s0 M0 w0 (trim k sl) st a w := by
  cases k with
  | none => exact h
  | some l =>
    obtain ⟨M, ⟨hW, hs, hn⟩, hF⟩ := h
    refine ⟨M, ⟨hW, fun t => ?_, hn⟩, hF⟩
    rcases trim_get l sl t with e | e <;> rw [e]
    · exact hs t
    · exact .undef _

theorem frz1_rel {M : Mem} {b sz : Nat} {rows : List (List Dat)} {vs : Nat → Value} (hs : ∀ r ∈ rows, r.length = sz) (hm : ∀ o, o < rows.length * sz → M b o = some (vs o))
    (hr : ∀ i j (hi : i < rows.length) (hj : j < rows[i].length), DRel M rows[i][j] (vs (i * sz + j))) {x : AV} {v : Value} (h : AVRel M x v) : AVRel M (x.frz1 b rows) v := by
  cases h with
  | bsl c off n cap hc =>
    simp only [AV.frz1]
    split
    · rename_i e
      obtain ⟨rfl, rfl, rfl⟩ := e
      exact .d _ _ (.sl rows c 0 cap sz vs hc hs (fun o ho => by rw [Nat.zero_add]; exact hm o ho) hr)
    · exact .bsl c off n cap hc
  | undef v => exact .undef v
  | d x v h => exact .d x v h
  | fullE => exact .fullE
  | full rows b size vs hs hm hr => exact .full rows b size vs hs hm hr
  | own b rows cap size vs hc hs hm hr => exact .own b rows cap size vs hc hs hm hr
  | elt cells b off vs hm hr => exact .elt cells b off vs hm hr
  | agg cells cs hl h1 => exact .agg cells cs hl h1
  | tup vs cs hl h1 => exact .tup vs cs hl h1
theorem frz_rel {M : Mem} {b sz : Nat} {rows : List (List Dat)} {vs : Nat → Value} (hs : ∀ r ∈ rows, r.length = sz) (hm : ∀ o, o < rows.length * sz → M b o = some (vs o))
    (hr : ∀ i j (hi : i < rows.length) (hj : j < rows[i].length), DRel M rows[i][j] (vs (i * sz + j))) {x : AV} {v : Value} (h : AVRel M x v) : AVRel M (x.frz b rows) v := by
  cases x with
  | agg cells =>
    cases h with
    | agg _ cs hl h1 =>
    refine .agg _ cs (by simpa using hl) fun i h2 h3 => ?_
    rw [List.getElem_map]
    exact frz1_rel hs hm hr (h1 i (by simpa using h2) h3)
  | undef => exact frz1_rel hs hm hr h
  | d => exact frz1_rel hs hm hr h
  | full => exact frz1_rel hs hm hr h
  | own => exact frz1_rel hs hm hr h
  | bsl => exact frz1_rel hs hm hr h
  | elt => exact frz1_rel hs hm hr h
  | tup => exact frz1_rel hs hm hr h

theorem own1_rel {M : Mem} {b sz k : Nat} {rows : List (List Dat)} {vs : Nat → Value} (hs : ∀ r ∈ rows, r.length = sz) (hm : ∀ o, o < rows.length * sz → M b o = some (vs o))
    (hr : ∀ i j (hi : i < rows.length) (hj : j < rows[i].length), DRel M rows[i][j] (vs (i * sz + j))) {x : AV} {v : Value} (h : AVRel M x v) : AVRel M (x.own1 b rows k) v := by
  cases h with
  | bsl c off n cap hc =>
    simp only [AV.own1]
    split
    · rename_i e
      obtain ⟨rfl, rfl, rfl, rfl⟩ := e
      exact .own c rows cap sz vs hc hs hm hr
    · exact .bsl c off n cap hc
  | undef v => exact .undef v
  | d x v h => exact .d x v h
  | fullE => exact .fullE
  | full rows b size vs hs hm hr => exact .full rows b size vs hs hm hr
  | own b rows cap size vs hc hs hm hr => exact .own b rows cap size vs hc hs hm hr
  | elt cells b off vs hm hr => exact .elt cells b off vs hm hr
  | agg cells cs hl h1 => exact .agg cells cs hl h1
  | tup vs cs hl h1 => exact .tup vs cs hl h1
theorem ownA_rel {M : Mem} {b sz k : Nat} {rows : List (List Dat)} {vs : Nat → Value} (hs : ∀ r ∈ rows, r.length = sz) (hm : ∀ o, o < rows.length * sz → M b o = some (vs o))
    (hr : ∀ i j (hi : i < rows.length) (hj : j < rows[i].length), DRel M rows[i][j] (vs (i * sz + j))) {x : AV} {v : Value} (h : AVRel M x v) : AVRel M (x.ownA b rows k) v := by
  cases x with
  | agg cells =>
    cases h with
    | agg _ cs hl h1 =>
    refine .agg _ cs (by simpa using hl) fun i h2 h3 => ?_
    rw [List.getElem_map]
    exact own1_rel hs hm hr (h1 i (by simpa using h2) h3)
  | undef => exact own1_rel (k := k) hs hm hr h
  | d => exact own1_rel (k := k) hs hm hr h
  | full => exact own1_rel (k := k) hs hm hr h
  | own => exact own1_rel (k := k) hs hm hr h
  | bsl => exact own1_rel (k := k) hs hm hr h
  | elt => exact own1_rel (k := k) hs hm hr h
  | tup => exact own1_rel (k := k) hs hm hr h

theorem flat_get {α : Type} {sz : Nat} : ∀ {rows : List (List α)} (_ : ∀ r ∈ rows, r.length = sz) (i j : Nat) (hi : i < rows.length) (hj : j < rows[i].length), rows.flatten[i * sz + j]? = some rows[i][j]
  | [], _, _, _, hi, _ => by cases hi
  | r :: rows, hs, 0, j, _, hj => by
    simp only [Nat.zero_mul, Nat.zero_add, List.flatten_cons, List.getElem_cons_zero] at hj ⊢
    rw [List.getElem?_append_left hj, List.getElem?_eq_getElem hj]
  | r :: rows, hs, i + 1, j, hi, hj => by
    have hr := hs r (by simp)
    simp only [List.getElem_cons_succ, List.flatten_cons] at hj ⊢
    rw [List.getElem?_append_right (by rw [hr, Nat.add_mul]; omega), hr]
    have : (i + 1) * sz + j - sz = i * sz + j := by rw [Nat.add_mul]; omega
    rw [this]
    exact flat_get (fun r h => hs r (by simp [h])) i j (by simpa using hi) hj
theorem flat_len {α : Type} {sz : Nat} : ∀ {rows : List (List α)} (_ : ∀ r ∈ rows, r.length = sz), rows.flatten.length = rows.length * sz
  | [], _ => by simp
  | r :: rows, hs => by
    rw [List.flatten_cons, List.length_append, hs r (by simp), flat_len (fun r h => hs r (by simp [h])), List.length_cons, Nat.add_mul]; omega

theorem elt1_rel {M : Mem} {b : Nat} {ds : List Dat} {vs : Nat → Value} (hm : ∀ o, o < ds.length → M b o = some (vs o)) (hr : ∀ i (hi : i < ds.length), DRel M ds[i] (vs i)) {x : AV} {v : Value} (h : AVRel M x v) : AVRel M (x.elt1 b ds) v := by
  cases x with
  | d y =>
    cases y with
    | ptr c o =>
      simp only [AV.elt1]
      split
      · rename_i e
        subst e
        rw [inv_ptr h]
        exact .elt _ c o (fun k => vs (o + k)) (fun k hk => hm _ (by simp at hk; omega)) fun k hk => by
          rw [List.getElem_drop]
          exact hr _ (by simp at hk; omega)
      · exact h
    | _ => exact h
  | _ => exact h
theorem Rel.frz {sl sl' : Slots} {st st' : St} {a : Act} {w : World} (h : Rel D G N s0 M0 w0 sl st a w) (k : Frz sl st sl' st') : Rel D G N s0 M0 w0 sl' st' a w := by
  induction k with
  | refl => exact h
  | @step s s' t t' b sz rows rest cells S hs hb hw k ih =>
    refine ih ?_
    obtain ⟨M, ⟨hW, hsl, hn⟩, hF⟩ := h
    obtain ⟨ty, cs, h1, h2, h3⟩ := hW.box b _ hb
    have hlen : rows.flatten.length = rows.length * sz := flat_len hs
    let M' : Mem := fun c o => if c = b ∧ o < rows.length * sz then cs[o]? else M c o
    have hcl : cells.length = rows.flatten.length + rest.length := by
      have := congrArg List.length hw
      rwa [List.length_map, List.length_append, List.length_map] at this
    have hsz : ∀ o, o < rows.length * sz → o < cs.size := fun o ho => by rw [h2, hcl, hlen]; omega
    have hmle : MLe M M' := fun c o v e => by
      show (if _ then _ else _) = _
      rw [if_neg]
      · exact e
      · rintro ⟨rfl, _⟩; rw [hW.boxM _ _ hb o] at e; cases e
    have hm : ∀ o, o < rows.length * sz → M' b o = some (cs.getD o undef) := fun o ho => by
      show (if _ then _ else _) = _
      rw [if_pos ⟨rfl, ho⟩, Array.getD_eq_getD_getElem?, Array.getElem?_eq_getElem (hsz o ho)]; rfl
    have hd : ∀ i j (hi : i < rows.length) (hj : j < rows[i].length), DRel M' rows[i][j] (cs.getD (i * sz + j) undef) := by
      intro i j hi hj
      have hg := flat_get hs i j hi hj
      obtain ⟨hlt, hg⟩ := List.getElem?_eq_some_iff.1 hg
      have hk : i * sz + j < cs.size := hsz _ (by rw [← hlen]; exact hlt)
      have hkc : i * sz + j < cells.length := by rw [hcl]; omega
      have := weak1_rel (h3 (i * sz + j) hkc hk)
      have hwe : cells[i * sz + j].weak1 = .d rows[i][j] := by
        have e := congrArg (fun l => l[i * sz + j]?) hw
        simp only [List.getElem?_map, List.getElem?_eq_getElem hkc, Option.map_some] at e
        rw [List.getElem?_append_left (by rw [List.length_map]; exact hlt), List.getElem?_map, List.getElem?_eq_getElem hlt, hg] at e
        exact Option.some.inj e
      rw [hwe] at this
      rw [Array.getD_eq_getD_getElem?, Array.getElem?_eq_getElem hk]
      cases this with
      | d _ _ hh => exact hh.mono hmle
    have hbM : ∀ c, c ≠ b → ∀ o, M' c o = M c o := fun c hc o => if_neg fun e => hc e.1
    have hbt : t.tok b = none := hW.boxT b _ hb
    refine ⟨M', ⟨⟨fun c l hc => ?_, fun c l hc o => ?_, fun c l hc => ?_, fun c q hc => ?_, fun c o v hc => ?_, fun g cells hg i hi => ?_⟩, fun i => frz_rel hs hm hd ((hsl i).mono hmle), hn⟩, ?_⟩
    · simp only [St.frz] at hc
      split at hc
      · cases hc
      · simp only [Option.map_eq_some_iff] at hc
        obtain ⟨l0, hl0, rfl⟩ := hc
        obtain ⟨ty', cs', g1, g2, g3⟩ := hW.box c l0 hl0
        split
        · refine ⟨ty', cs', g1, by simpa using g2, fun i a b => ?_⟩
          rw [List.getElem_map]
          exact frz1_rel hs hm hd ((g3 i (by simpa using a) b).mono hmle)
        · exact ⟨ty', cs', g1, g2, fun i a b => (g3 i a b).mono hmle⟩
    · simp only [St.frz] at hc
      split at hc
      · cases hc
      · rename_i hcb
        simp only [Option.map_eq_some_iff] at hc
        obtain ⟨l0, hl0, rfl⟩ := hc
        rw [hbM c hcb]; exact hW.boxM c l0 hl0 o
    · simp only [St.frz] at hc
      split at hc
      · cases hc
      · simp only [Option.map_eq_some_iff] at hc
        obtain ⟨l0, hl0, rfl⟩ := hc
        exact hW.boxT c l0 hl0
    · have hcb : c ≠ b := fun e => by subst e; have : t.tok c = some q := hc; rw [hbt] at this; cases this
      exact (hW.tok c q hc).of rfl (fun o ho => by rw [hbM c hcb]; exact ho) hmle
    · by_cases e : c = b ∧ o < rows.length * sz
      · have : M' c o = cs[o]? := if_pos e
        rw [this] at hc
        obtain ⟨rfl, _⟩ := e
        rw [cell_of_row _ _ _ _ _ _ h1]; exact hc
      · have : M' c o = M c o := if_neg e
        rw [this] at hc
        exact hW.imm c o v hc
    · obtain ⟨v, g1, g2⟩ := hW.glob g cells hg i hi
      exact ⟨v, hmle _ _ _ g1, g2.mono hmle⟩
    · refine ⟨hF.os, hF.tape, hF.output, hF.size, hF.blk, fun c o hc k1 k2 => ?_, hF.mle.trans hmle, fun c hc k1 k2 => ?_⟩
      · have hcb : c ≠ b := fun e => by subst e; rw [(hF.domB c hc k2 k1).1] at hb; cases hb
        rw [hbM c hcb]; exact hF.mem c o hc k1 k2
      · obtain ⟨q1, q2⟩ := hF.domB c hc k1 k2
        refine ⟨?_, q2⟩
        simp only [St.frz]
        split
        · rfl
        · rw [q1]; rfl
  | @own s s' t t' b sz cap rows rest cells S hs hb hw hl hc0 k ih =>
    refine ih ?_
    obtain ⟨M, ⟨hW, hsl, hn⟩, hF⟩ := h
    obtain ⟨ty, cs, h1, h2, h3⟩ := hW.box b _ hb
    have hlen : rows.flatten.length = rows.length * sz := flat_len hs
    let M' : Mem := fun c o => if c = b ∧ o < rows.length * sz then cs[o]? else M c o
    have hcl : cells.length = rows.flatten.length + rest.length := by
      have := congrArg List.length hw
      rwa [List.length_map, List.length_append, List.length_map] at this
    have hsz : ∀ o, o < rows.length * sz → o < cs.size := fun o ho => by rw [h2, hcl, hlen]; omega
    have hmle : MLe M M' := fun c o v e => by
      show (if _ then _ else _) = _
      rw [if_neg]
      · exact e
      · rintro ⟨rfl, _⟩; rw [hW.boxM _ _ hb o] at e; cases e
    have hm : ∀ o, o < rows.length * sz → M' b o = some (cs.getD o undef) := fun o ho => by
      show (if _ then _ else _) = _
      rw [if_pos ⟨rfl, ho⟩, Array.getD_eq_getD_getElem?, Array.getElem?_eq_getElem (hsz o ho)]; rfl
    have hd : ∀ i j (hi : i < rows.length) (hj : j < rows[i].length), DRel M' rows[i][j] (cs.getD (i * sz + j) undef) := by
      intro i j hi hj
      have hg := flat_get hs i j hi hj
      obtain ⟨hlt, hg⟩ := List.getElem?_eq_some_iff.1 hg
      have hk : i * sz + j < cs.size := hsz _ (by rw [← hlen]; exact hlt)
      have hkc : i * sz + j < cells.length := by rw [hcl]; omega
      have := weak1_rel (h3 (i * sz + j) hkc hk)
      have hwe : cells[i * sz + j].weak1 = .d rows[i][j] := by
        have e := congrArg (fun l => l[i * sz + j]?) hw
        simp only [List.getElem?_map, List.getElem?_eq_getElem hkc, Option.map_some] at e
        rw [List.getElem?_append_left (by rw [List.length_map]; exact hlt), List.getElem?_map, List.getElem?_eq_getElem hlt, hg] at e
        exact Option.some.inj e
      rw [hwe] at this
      rw [Array.getD_eq_getD_getElem?, Array.getElem?_eq_getElem hk]
      cases this with
      | d _ _ hh => exact hh.mono hmle
    have hbM : ∀ c, c ≠ b → ∀ o, M' c o = M c o := fun c hc o => if_neg fun e => hc e.1
    have hbt : t.tok b = none := hW.boxT b _ hb
    refine ⟨M', ⟨⟨fun c l hc => ?_, fun c l hc o => ?_, fun c l hc => ?_, fun c q hc => ?_, fun c o v hc => ?_, fun g cells hg i hi => ?_⟩, fun i => ownA_rel hs hm hd ((hsl i).mono hmle), hn⟩, ?_⟩
    · simp only [St.own] at hc
      split at hc
      · cases hc
      · simp only [Option.map_eq_some_iff] at hc
        obtain ⟨l0, hl0, rfl⟩ := hc
        obtain ⟨ty', cs', g1, g2, g3⟩ := hW.box c l0 hl0
        split
        · refine ⟨ty', cs', g1, by simpa using g2, fun i a b => ?_⟩
          rw [List.getElem_map]
          exact own1_rel hs hm hd ((g3 i (by simpa using a) b).mono hmle)
        · exact ⟨ty', cs', g1, g2, fun i a b => (g3 i a b).mono hmle⟩
    · simp only [St.own] at hc
      split at hc
      · cases hc
      · rename_i hcb
        simp only [Option.map_eq_some_iff] at hc
        obtain ⟨l0, hl0, rfl⟩ := hc
        rw [hbM c hcb]; exact hW.boxM c l0 hl0 o
    · simp only [St.own] at hc
      split at hc
      · cases hc
      · rename_i hcb2
        simp only [Option.map_eq_some_iff] at hc
        obtain ⟨l0, hl0, rfl⟩ := hc
        show (if c = b then _ else t.tok c) = none
        rw [if_neg hcb2]; exact hW.boxT c l0 hl0
    · by_cases hcb : c = b
      · subst hcb
        have hq : (⟨rows.length, cap, sz, none⟩ : Tok) = q := Option.some.inj ((if_pos rfl).symm.trans hc)
        subst hq
        refine ⟨hc0, ⟨ty, cs, h1, h2.trans hl⟩, fun o ho => ?_⟩
        show (if _ then _ else _) = none
        rw [if_neg (fun e => by have := e.2; simp only at ho; omega)]
        exact hW.boxM c _ hb o
      · have hc' : t.tok c = some q := (if_neg hcb).symm.trans hc
        exact (hW.tok c q hc').of rfl (fun o ho => by rw [hbM c hcb]; exact ho) hmle
    · by_cases e : c = b ∧ o < rows.length * sz
      · have : M' c o = cs[o]? := if_pos e
        rw [this] at hc
        obtain ⟨rfl, _⟩ := e
        rw [cell_of_row _ _ _ _ _ _ h1]; exact hc
      · have : M' c o = M c o := if_neg e
        rw [this] at hc
        exact hW.imm c o v hc
    · obtain ⟨v, g1, g2⟩ := hW.glob g cells hg i hi
      exact ⟨v, hmle _ _ _ g1, g2.mono hmle⟩
    · refine ⟨hF.os, hF.tape, hF.output, hF.size, hF.blk, fun c o hc k1 k2 => ?_, hF.mle.trans hmle, fun c hc k1 k2 => ?_⟩
      · have hcb : c ≠ b := fun e => by subst e; rw [(hF.domB c hc k2 k1).1] at hb; cases hb
        rw [hbM c hcb]; exact hF.mem c o hc k1 k2
      · obtain ⟨q1, q2⟩ := hF.domB c hc k1 k2
        have hcb : c ≠ b := fun e => by subst e; rw [q1] at hb; cases hb
        refine ⟨?_, (if_neg hcb).trans q2⟩
        simp only [St.own]
        split
        · rfl
        · rw [q1]; rfl
  | @elt s s' t t' b ds cells hb hw k ih =>
    refine ih ?_
    obtain ⟨M, ⟨hW, hsl, hn⟩, hF⟩ := h
    obtain ⟨ty, cs, h1, h2, h3⟩ := hW.box b _ hb
    let M' : Mem := fun c o => if c = b ∧ o < ds.length then cs[o]? else M c o
    have hcl : cells.length = ds.length := by have := congrArg List.length hw; simpa using this
    have hsz : ∀ o, o < ds.length → o < cs.size := fun o ho => by rw [h2, hcl]; omega
    have hmle : MLe M M' := fun c o v e => by
      show (if _ then _ else _) = _
      rw [if_neg]
      · exact e
      · rintro ⟨rfl, _⟩; rw [hW.boxM _ _ hb o] at e; cases e
    have hm : ∀ o, o < ds.length → M' b o = some (cs.getD o undef) := fun o ho => by
      show (if _ then _ else _) = _
      rw [if_pos ⟨rfl, ho⟩, Array.getD_eq_getD_getElem?, Array.getElem?_eq_getElem (hsz o ho)]; rfl
    have hd : ∀ i (hi : i < ds.length), DRel M' ds[i] (cs.getD i undef) := by
      intro i hi
      have hk : i < cs.size := hsz _ hi
      have hkc : i < cells.length := by rw [hcl]; exact hi
      have := weak1_rel (h3 i hkc hk)
      have hwe : cells[i].weak1 = .d ds[i] := by
        have e := congrArg (fun l => l[i]?) hw
        simp only [List.getElem?_map, List.getElem?_eq_getElem hkc, List.getElem?_eq_getElem hi, Option.map_some] at e
        exact Option.some.inj e
      rw [hwe] at this
      rw [Array.getD_eq_getD_getElem?, Array.getElem?_eq_getElem hk]
      cases this with
      | d _ _ hh => exact hh.mono hmle
    have hbM : ∀ c, c ≠ b → ∀ o, M' c o = M c o := fun c hc o => if_neg fun e => hc e.1
    have hbt : t.tok b = none := hW.boxT b _ hb
    refine ⟨M', ⟨⟨fun c l hc => ?_, fun c l hc o => ?_, fun c l hc => ?_, fun c q hc => ?_, fun c o v hc => ?_, fun g cells hg i hi => ?_⟩, fun i => elt1_rel hm hd ((hsl i).mono hmle), hn⟩, ?_⟩
    · rw [St.box_dropBox] at hc
      split at hc
      · cases hc
      · obtain ⟨ty', cs', g1, g2, g3⟩ := hW.box c l hc
        exact ⟨ty', cs', g1, g2, fun i a b => (g3 i a b).mono hmle⟩
    · rw [St.box_dropBox] at hc
      split at hc
      · cases hc
      · rename_i hcb
        rw [hbM c hcb]; exact hW.boxM c l hc o
    · rw [St.box_dropBox] at hc
      split at hc
      · cases hc
      · exact hW.boxT c l hc
    · have hcb : c ≠ b := fun e => by subst e; have : t.tok c = some q := hc; rw [hbt] at this; cases this
      exact (hW.tok c q hc).of rfl (fun o ho => by rw [hbM c hcb]; exact ho) hmle
    · by_cases e : c = b ∧ o < ds.length
      · have : M' c o = cs[o]? := if_pos e
        rw [this] at hc
        obtain ⟨rfl, _⟩ := e
        rw [cell_of_row _ _ _ _ _ _ h1]; exact hc
      · have : M' c o = M c o := if_neg e
        rw [this] at hc
        exact hW.imm c o v hc
    · obtain ⟨v, g1, g2⟩ := hW.glob g cells hg i hi
      exact ⟨v, hmle _ _ _ g1, g2.mono hmle⟩
    · refine ⟨hF.os, hF.tape, hF.output, hF.size, hF.blk, fun c o hc k1 k2 => ?_, hF.mle.trans hmle, fun c hc k1 k2 => ?_⟩
      · have hcb : c ≠ b := fun e => by subst e; rw [(hF.domB c hc k2 k1).1] at hb; cases hb
        rw [hbM c hcb]; exact hF.mem c o hc k1 k2
      · obtain ⟨q1, q2⟩ := hF.domB c hc k1 k2
        refine ⟨?_, q2⟩
        rw [St.box_dropBox]
        split
        · rfl
        · exact q1

/-- What is kept ahead of the code. -/
def PCode.bare : PCode → Prop
  | .keep _ _ => False
  | _ => True
theorem keep_ind {Goal : PCode → (PEx → Slots → St → Prop) → Slots → St → Prop} {w : World} {a : Act}
    (hb : ∀ (pc : PCode) (Q : PEx → Slots → St → Prop) (s : Slots) (t : St), pc.bare → Rel D G N s0 M0 w0 s t a w → pwp G (PCallsE P G E) pc Q s t → Goal pc.er Q s t)
    (hk : ∀ (pc : PCode) (_ : List Nat) (Q : PEx → Slots → St → Prop) (s : Slots) (t : St) (s' : Slots) (t' : St), Goal pc Q s' t' → Goal pc Q s t) :
    ∀ (pc : PCode) (Q : PEx → Slots → St → Prop) (s : Slots) (t : St), Rel D G N s0 M0 w0 s t a w → pwp G (PCallsE P G E) pc Q s t → Goal pc.er Q s t
  | .keep l c, Q, _, _, hR, ⟨s', t', k, h⟩ => hk _ l _ _ _ s' t' (keep_ind hb hk c Q s' t' ((hR.trim _).frz k) h)
  | .skip, _, _, _, hR, h => hb _ _ _ _ trivial hR h
  | .region _, _, _, _, hR, h => hb _ _ _ _ trivial hR h
  | .seq _ _, _, _, _, hR, h => hb _ _ _ _ trivial hR h
  | .cond _ _ _, _, _, _, hR, h => hb _ _ _ _ trivial hR h
  | .block _ _, _, _, _, hR, h => hb _ _ _ _ trivial hR h
  | .loop _ _, _, _, _, hR, h => hb _ _ _ _ trivial hR h
  | .exit _, _, _, _, hR, h => hb _ _ _ _ trivial hR h
  | .ret, _, _, _, hR, h => hb _ _ _ _ trivial hR h
  | .die _ _ _, _, _, _, hR, h => hb _ _ _ _ trivial hR h

theorem bare_red {md : Nat → Nat} {c : Code}
    (hbare : ∀ {pc : PCode}, pc.bare → compCode P md N c = some pc.er → pc.er.misses (D.pin.map (·.1)) = true → ∀ {Q : PEx → Slots → St → Prop} {Qm : Exit → Act → World → Prop},
      (∀ e a w s t, Rel D G N s0 M0 w0 s t a w → Q e s t → Qm (mEx e) a w) → PanOk D G E s0 M0 w0 Qm → ∀ {s : Slots} {t : St} {a : Act} {w : World}, Rel D G N s0 M0 w0 s t a w → pwp G (PCallsE P G E) pc Q s t → c.wp P Qm a w) :
    ∀ {pc : PCode}, compCode P md N c = some pc.er → pc.er.misses (D.pin.map (·.1)) = true → ∀ {Q : PEx → Slots → St → Prop} {Qm : Exit → Act → World → Prop},
      (∀ e a w s t, Rel D G N s0 M0 w0 s t a w → Q e s t → Qm (mEx e) a w) → PanOk D G E s0 M0 w0 Qm → ∀ {s : Slots} {t : St} {a : Act} {w : World}, Rel D G N s0 M0 w0 s t a w → pwp G (PCallsE P G E) pc Q s t → c.wp P Qm a w := by
  intro pc hc hms Q Qm hQ hP s t a w hR h
  exact keep_ind (Goal := fun pe Q' _ _ => compCode P md N c = some pe → pe.misses (D.pin.map (·.1)) = true → (∀ e a w s t, Rel D G N s0 M0 w0 s t a w → Q' e s t → Qm (mEx e) a w) → PanOk D G E s0 M0 w0 Qm → c.wp P Qm a w)
    (fun pc Q s t hb hR h hc hms hQ hP => hbare hb hc hms hQ hP hR h) (fun pc l Q s t s' t' g => g) pc Q s t hR h hc hms hQ hP

/-- THE CODE, SOUND. -/
theorem code_sound {md : Nat → Nat} : ∀ {c : Code} {pc : PCode}, compCode P md N c = some pc.er → pc.er.misses (D.pin.map (·.1)) = true → ∀ {Q : PEx → Slots → St → Prop} {Qm : Exit → Act → World → Prop},
    (∀ e a w s t, Rel D G N s0 M0 w0 s t a w → Q e s t → Qm (mEx e) a w) → PanOk D G E s0 M0 w0 Qm → ∀ {s : Slots} {t : St} {a : Act} {w : World}, Rel D G N s0 M0 w0 s t a w → pwp G (PCallsE P G E) pc Q s t → c.wp P Qm a w := by
  intro c
  induction c with
  | skip =>
    refine bare_red ?_
    intro pc hb hc hms Q Qm hQ hP s t a w hR h
    simp only [compCode, Option.some.injEq] at hc
    cases pc <;> (try exact hb.elim) <;> simp only [PCode.er] at hc <;> (try (cases hc; done))
    exact wp_skip (hQ .normal _ _ _ _ hR h)
  | region id ops draw =>
    refine bare_red ?_
    intro pc hb hc hms Q Qm hQ hP s t a w hR h
    simp only [compCode] at hc
    split at hc
    · rename_i y hy
      split at hc <;> (try (cases hc; done))
      rename_i pl z hpl hz
      split at hc <;> (try (cases hc; done))
      rename_i hd
      obtain ⟨hd, hdraw⟩ := hd
      simp only [Option.some.injEq] at hc
      cases pc <;> (try exact hb.elim) <;> simp only [PCode.er] at hc <;> cases hc
      have hdst : dstsOk D N pl := dstsOk_of hd hms
      unfold dieOf at hy
      split at hy <;> (try (cases hy; done))
      rename_i o hlast
      split at hy <;> (try (cases hy; done))
      rename_i x' ho hg
      cases hy
      have hne : ops.toList ≠ [] := by rintro e; rw [e] at hlast; cases hlast
      have hcat : ops.toList.dropLast ++ [o] = ops.toList := by
        have := List.dropLast_concat_getLast hne
        rw [List.getLast?_eq_some_getLast hne, Option.some.injEq] at hlast
        rw [← hlast]; exact this
      have hlen : ops.size = ops.toList.dropLast.length + 1 := by
        have := congrArg List.length hcat
        simpa using this.symm
      have hoi : ops[ops.toList.dropLast.length]? = some o := by
        rw [← Array.getElem?_toList, ← hcat]; simp
      have hfin : ∀ (R : Act → World → Prop) (a : Act) (w : World) (x : X), Rel D G N s0 M0 w0 x.sl x.m.st a w → (z.ev G x.sl).isIfc = true ∧ PCallsE P G E P.funcs.size [z.ev G x.sl] x.m.st (fun _ _ => False) → wpOp P ops Qm ops.toList.dropLast.length R a w := by
        rintro R a w x hR ⟨hi, hC⟩
        unfold wpOp
        rw [hoi]
        simp only
        rw [if_pos (by simp [Region.wanted, hg])]
        left
        obtain ⟨M, ⟨hW, hs, hn, hdf⟩, hF⟩ := hR
        have h1 := cArg_rel (x := x) (⟨hW, hs, hn, hdf⟩ : XRel D G M N x a w) hz
        rcases hC with ⟨hent, _⟩ | ⟨_, _, v', hv', hE⟩
        · exact absurd hent (by simp [entered])
        · cases hv'
          have hrun : (execOp a.eval o).run P w = .halt (.panic (a.eval y)) w := by
            revert hi h1
            generalize z.ev G x.sl = z0
            intro hi h1
            cases z0 <;> simp only [AV.isIfc] at hi <;> (try (cases hi; done))
            rename_i q
            cases h1 with
            | d _ _ h1 =>
              generalize hu : a.eval y = u at h1
              cases h1 <;> simp only at hi <;> (try (cases hi; done)) <;> simp [execOp, ho, hu, Instr.panic] <;> rfl
          unfold Oper.wp
          rw [hrun, Oper.upon_panic]
          exact hP _ _ _ M a w hW h1 hdf hF hE
      cases draw with
      | false =>
        refine wp_region ?_
        have hlp := list_wp (Q := Qm) (tl := [ops.toList.dropLast.length]) hP (K := fun X => (z.ev G X.sl).isIfc = true ∧ PCallsE P G E P.funcs.size [z.ev G X.sl] X.m.st fun _ _ => False) ?_ ops.toList.dropLast 0 pl hpl ?_ hdst (pX s t) a w hR h
        · rw [hlen, List.range_eq_range', List.range'_concat]
          simpa using hlp
        · intro a w x hR hK
          rw [wpOps_cons]
          exact hfin _ a w x hR hK
        · intro j hj
          have hj2 : ops[j]? = (ops.toList.dropLast ++ [o])[j]? := by rw [hcat]; simp
          rw [Nat.zero_add, hj2, List.getElem?_append_left hj]
      | true =>
        have hdb := hdraw.resolve_left (by simp)
        simp only [dieB, Bool.and_eq_true, decide_eq_true_eq] at hdb
        obtain ⟨⟨⟨⟨hm, hlex⟩, hsz⟩, hfw⟩, hall⟩ := hdb
        have hpn : pl.length = ops.toList.dropLast.length := by omega
        have hany := pAny_of_lexR (pcalls_frame P G E) hlex (Q := fun X => (z.ev G X.sl).isIfc = true ∧ PCallsE P G E P.funcs.size [z.ev G X.sl] X.m.st fun _ _ => False) (x := pX s t) (pops_snoc_nop h)
        rw [show (pl ++ [nopO]).length = ops.size by simp [hsz]] at hany
        rw [hsz] at hany
        refine wp_region_any hm ?_
        rw [hsz]
        exact any_wpD hP hpl hdst (fun R a w x hR hK => by rw [hpn]; exact hfin R a w x hR hK) hsz hfw (masks_spec ops ops.toList #[] (by simp) (fun j hj => by simp at hj)) (fun i hi => List.all_eq_true.1 hall i (List.mem_range.2 hi)) _ _ (pX s t) a _ (by
          intro k o hk
          exfalso
          simp only [Array.getD_eq_getD_getElem?, Array.getElem?_replicate] at hk
          split at hk <;> simp at hk) (by simp) hR.draw hany
    · rename_i hy
      split at hc <;> (try (cases hc; done))
      rename_i pl hpl
      split at hc
      rotate_left
      · split at hc <;> (try (cases hc; done))
        rename_i hcond
        obtain ⟨hd, _, hm, hlex, hlen, rfl, hall⟩ := hcond
        simp only [Option.some.injEq] at hc
        generalize ordOf ops pl = is at *
        cases pc <;> (try exact hb.elim) <;> simp only [PCode.er] at hc <;> cases hc
        have hms' : pl.all (POper.misses (D.pin.map (·.1))) = true := List.all_eq_true.2 fun o ho => by
          obtain ⟨k, hk, hko⟩ := List.getElem_of_mem ho
          have h1 := List.all_eq_true.1 hall k (List.mem_range.2 hk)
          exact List.all_eq_true.1 hms o (List.mem_filterMap.2 ⟨k, by simpa using h1, by rw [List.getElem?_eq_getElem hk, hko]⟩)
        have hdst : dstsOk D N pl := dstsOk_of hd hms'
        have hK : ∀ (a : Act) (w : World) (x : X), Rel D G N s0 M0 w0 x.sl x.m.st a w → Q .normal x.sl x.m.st → Qm .normal a w := fun a w x hR h => hQ .normal a w _ _ hR h
        have := pAny_of_lexOR (pcalls_frame P G E) hlex h
        rw [hlen] at this
        exact wp_region_any hm (any_wp hP hpl hdst hK ops.size _ (pX s t) a _ hR.draw this)
      rename_i hcond
      simp only [Option.some.injEq] at hc
      cases pc <;> (try exact hb.elim) <;> simp only [PCode.er] at hc <;> cases hc
      obtain ⟨hd, hdr⟩ := hcond
      have hdst : dstsOk D N pl := dstsOk_of hd hms
      have hK : ∀ (a : Act) (w : World) (x : X), Rel D G N s0 M0 w0 x.sl x.m.st a w → Q .normal x.sl x.m.st → Qm .normal a w := fun a w x hR h => hQ .normal a w _ _ hR h
      cases draw with
      | false =>
        refine wp_region ?_
        have := list_wp (Q := Qm) (tl := []) hP hK ops.toList 0 pl hpl (fun j _ => by simp) hdst (pX s t) a w hR h
        simpa [List.range_eq_range'] using this
      | true =>
        have hdr' := hdr.resolve_left (by simp)
        obtain ⟨hm, hlex, hlen⟩ := hdr'
        have := pAny_of_lexR (pcalls_frame P G E) hlex h
        rw [hlen] at this
        exact wp_region_any hm (any_wp hP hpl hdst hK ops.size _ (pX s t) a _ hR.draw this)
  | seq x y ihx ihy =>
    refine bare_red ?_
    intro pc hb hc hms Q Qm hQ hP s t a w hR h
    simp only [compCode] at hc
    split at hc <;> (try (cases hc; done))
    rename_i px py hx hy
    simp only [Option.some.injEq] at hc
    cases pc <;> (try exact hb.elim) <;> simp only [PCode.er] at hc <;> (try (cases hc; done))
    rename_i qx qy
    injection hc with e1 e2
    subst e1; subst e2
    simp only [PCode.er, PCode.misses, Bool.and_eq_true] at hms
    refine wp_seq (ihx hx hms.1 (Q := PEx.next (pwp G (PCallsE P G E) qy Q) Q) ?_ ?_ hR h)
    rotate_left
    · exact fun v r st' M' a w' k1 k2 k3 k4 k5 => hP v r st' M' a w' k1 k2 k3 k4 k5
    intro e a w s t hR k
    cases e with
    | normal => exact ihy hy hms.2 hQ hP hR k
    | exit id => exact hQ (.exit id) _ _ _ _ hR k
    | ret => exact hQ .ret _ _ _ _ hR k
  | cond c x y ihx ihy =>
    refine bare_red ?_
    intro pc hb hc hms Q Qm hQ hP s t a w hR h
    simp only [compCode] at hc
    split at hc <;> (try (cases hc; done))
    rename_i g px py hg hx hy
    simp only [Option.some.injEq] at hc
    cases pc <;> (try exact hb.elim) <;> simp only [PCode.er] at hc <;> (try (cases hc; done))
    rename_i g' qx qy
    injection hc with e0 e1 e2
    subst e0; subst e1; subst e2
    simp only [PCode.er, PCode.misses, Bool.and_eq_true] at hms
    obtain ⟨M, ⟨hW, hs, hn, hdf⟩, hF⟩ := id hR
    have h1 := cArg_rel (x := pX s t) (⟨hW, hs, hn, hdf⟩ : XRel D G M N (pX s t) a w) hg
    simp only [pwp] at h
    split at h
    · rename_i e; simp only [pX] at h1; rw [e] at h1; exact wp_cond_true (inv_bool h1) (ihx hx hms.1 hQ hP hR h)
    · rename_i e; simp only [pX] at h1; rw [e] at h1; exact wp_cond_false (inv_bool h1) (ihy hy hms.2 hQ hP hR h)
    · exact h.elim
  | block id c ih =>
    refine bare_red ?_
    intro pc hb hc hms Q Qm hQ hP s t a w hR h
    simp only [compCode, Option.map_eq_some_iff] at hc
    obtain ⟨pc', hc', e⟩ := hc
    cases pc <;> (try exact hb.elim) <;> simp only [PCode.er] at e <;> (try (cases e; done))
    rename_i id' qc
    injection e with e0 e1
    subst e0; subst e1
    refine wp_block (ih hc' hms (Q := PEx.inBlock id Q) ?_ ?_ hR h)
    rotate_left
    · exact fun v r st' M' a w' k1 k2 k3 k4 k5 => hP v r st' M' a w' k1 k2 k3 k4 k5
    intro e a w s t hR k
    cases e with
    | normal => exact hQ .normal _ _ _ _ hR k
    | exit j =>
      simp only [mEx, Exit.inBlock, PEx.inBlock] at k ⊢
      split
      · rename_i e; rw [if_pos e] at k; exact hQ .normal _ _ _ _ hR k
      · rename_i e; rw [if_neg e] at k; exact hQ (.exit j) _ _ _ _ hR k
    | ret => exact hQ .ret _ _ _ _ hR k
  | loop c ih =>
    refine bare_red ?_
    intro pc hb hc hms Q Qm hQ hP s t a w hR h
    simp only [compCode, Option.map_eq_some_iff] at hc
    obtain ⟨pc', hc', e⟩ := hc
    cases pc <;> (try exact hb.elim) <;> simp only [PCode.er] at e <;> (try (cases e; done))
    rename_i keep qc
    injection e with e0 e1
    subst e1
    obtain ⟨n, h⟩ := h
    refine wp_loop_rounds n ?_
    induction n generalizing s t a w with
    | zero => exact h.elim
    | succ n ihn =>
      refine ih hc' hms (Q := PEx.next (prounds (fun Q s t => pwp G (PCallsE P G E) qc Q (trim keep s) t) Q n) Q) ?_ ?_ (hR.trim keep) h
      rotate_left
      · exact fun v r st' M' a w' k1 k2 k3 k4 k5 => hP v r st' M' a w' k1 k2 k3 k4 k5
      intro e a w s t hR k
      cases e with
      | normal => exact ihn hR k
      | exit id => exact hQ (.exit id) _ _ _ _ hR k
      | ret => exact hQ .ret _ _ _ _ hR k
  | exit id =>
    refine bare_red ?_
    intro pc hb hc hms Q Qm hQ hP s t a w hR h
    simp only [compCode, Option.some.injEq] at hc
    cases pc <;> (try exact hb.elim) <;> simp only [PCode.er] at hc <;> (try (cases hc; done))
    injection hc with e
    subst e
    exact wp_exit (hQ (.exit id) _ _ _ _ hR h)
  | ret =>
    refine bare_red ?_
    intro pc hb hc hms Q Qm hQ hP s t a w hR h
    simp only [compCode, Option.some.injEq] at hc
    cases pc <;> (try exact hb.elim) <;> simp only [PCode.er] at hc <;> (try (cases hc; done))
    exact wp_ret (hQ .ret _ _ _ _ hR h)
  | label l =>
    refine bare_red ?_
    intro pc hb hc hms Q Qm hQ hP s t a w hR h
    simp only [compCode, Option.some.injEq] at hc
    cases pc <;> (try exact hb.elim) <;> simp only [PCode.er] at hc <;> (try (cases hc; done))
    exact wp_label (hQ .normal _ _ _ _ hR h)
  | scope c ih =>
    intro pc hc hms Q Qm hQ hP s t a w hR h
    exact wp_scope_straight (ih (pc := pc) hc hms (Q := Q) (Qm := Exit.noGoto Qm) (fun e a w sl st hR k => by cases e <;> exact hQ _ _ _ _ _ hR k) (fun v r st' M' a w h1 h2 h3 h4 h5 => hP v r st' M' a w h1 h2 h3 h4 h5) hR h)
  | _ => intro pc hc; cases hc

end
end Go.Pv
