/- Functions that put off a call of a closure which may recover, by value. No condition. -/
import Derived.Test.YtdggkhnelmonkaaDoorP16
import Derived.Recover
import Derived.Test.YtdggkhnelmonkaaDoorP26
namespace Go.Pv

/-- A call that was put off, by value: 'u' is what the frame below it panics with, if it does. -/
def DCalls (P : Program) (G : Glob) (g : FuncId) (as : List AV) (u : Option AV) (st : St) (R : St → Prop) : Prop :=
  entered P g = true ∧ ∀ (M : Mem) (w : World) (vals : Array Value), WRel G M st w → ARel M as vals.toList →
    ∀ um : FrameMode, (match u with | none => um = .returning | some r => ∃ v, AVRel M r v ∧ um = .panicking [{ v := v, recovered := false }]) →
      CallsD P g vals um w fun e u' w' => ∃ v st' M', e = .returned v ∧ settle u' = .returning ∧ WRel G M' st' w' ∧ Frame st st' M M' w w' ∧ R st'

/-- Such a function: what stands ahead, the region that puts the call off, what stands behind. -/
structure DFun where
  pre : PCode
  init : List POper
  x : Arg
  post : PCode
  ntmps : Nat
  results : List PRes

/-- The closure that is put off, if a region ends so. -/
def dfrOf (ops : Array Oper) (draw : Bool) : Option Operand :=
  if draw = true then none else
  match ops.toList.getLast? with
  | some o => match o.op, o.guard, o.dst with
    | .defer c, none, none => match c.callee, c.args.toList with
      | .value x, [] => some x
      | _, _ => none
    | _, _, _ => none
  | none => none

def splitDfr : Code → Option (List Code × Nat × Array Oper × Operand × Code)
  | .seq (.region id ops draw) b => match dfrOf ops draw with
    | some x => some ([], id, ops, x, b)
    | none => (splitDfr b).map fun r => (.region id ops draw :: r.1, r.2)
  | .seq a b => (splitDfr b).map fun r => (a :: r.1, r.2)
  | _ => none
theorem dfrOf_draw {ops : Array Oper} {draw : Bool} {x : Operand} (h : dfrOf ops draw = some x) : draw = false := by
  unfold dfrOf at h
  split at h
  · cases h
  · rename_i k; simpa using k
theorem splitDfr_eq : ∀ {c : Code} {l : List Code} {id : Nat} {ops : Array Oper} {x : Operand} {b : Code}, splitDfr c = some (l, id, ops, x, b) → c = l.foldr Code.seq (.seq (.region id ops false) b) ∧ dfrOf ops false = some x := by
  intro c
  induction c with
  | seq a b _ ihb =>
    intro l id ops x b' h
    have plain : (splitDfr b).map (fun r => (a :: r.1, r.2)) = some (l, id, ops, x, b') → Code.seq a b = l.foldr Code.seq (.seq (.region id ops false) b') ∧ dfrOf ops false = some x := by
      intro h
      simp only [Option.map_eq_some_iff] at h
      obtain ⟨⟨l', r⟩, hr, e⟩ := h
      cases e
      obtain ⟨h1, h2⟩ := ihb hr
      exact ⟨by rw [List.foldr_cons, ← h1], h2⟩
    cases a <;> simp only [splitDfr] at h <;> (try exact plain h)
    split at h
    · rename_i y hy
      cases h
      have := dfrOf_draw hy
      subst this
      exact ⟨rfl, hy⟩
    · exact plain h
  | _ => intro l id ops x b' h; cases h

def compDfr (P : Program) (md : Nat → Nat) (f : FuncId) : Option DFun :=
  match P.funcs[f]? with
  | none => none
  | some fn => match fn.body, fn.results.toList.mapM (compRes P) with
    | some c, some rs => match splitDfr c with
      | some (l, _, ops, x, b) =>
        match l.mapM (compCode P md fn.ntmps), ops.toList.dropLast.mapM (compOper P false false 0 ops), cArg x, compCode P md fn.ntmps b with
        | some pre, some init, some y, some post =>
          if (init.all fun o => match o.dst with | some d => decide (d < fn.ntmps) | none => true) = true then some ⟨pre.foldr PCode.seq .skip, init, y, post, fn.ntmps, rs⟩ else none
        | _, _, _, _ => none
      | none => none
    | _, _ => none
def DFun.er (p : DFun) : DFun := ⟨p.pre.er, p.init, p.x, p.post.er, p.ntmps, p.results⟩

/-- The pieces of what stands ahead. -/
def unSeq : PCode → Option (List PCode)
  | .skip => some []
  | .seq a b => (unSeq b).map (a :: ·)
  | .keep l c => match unSeq c with
    | some (p :: r) => some (.keep l p :: r)
    | _ => none
  | _ => none
theorem unSeq_er : ∀ (c : PCode) {items pl : List PCode}, unSeq c = some items → c.er = pl.foldr PCode.seq .skip → items.map PCode.er = pl
  | .skip, items, pl, h, e => by
    cases h
    cases pl with
    | nil => rfl
    | cons p r => cases e
  | .seq a b, items, pl, h, e => by
    simp only [unSeq, Option.map_eq_some_iff] at h
    obtain ⟨r, hr, rfl⟩ := h
    cases pl with
    | nil => cases e
    | cons p q =>
      simp only [PCode.er, List.foldr_cons, PCode.seq.injEq] at e
      rw [List.map_cons, unSeq_er b hr e.2, e.1]
  | .keep l c, items, pl, h, e => by
    simp only [unSeq] at h
    split at h <;> cases h
    rename_i p r hr
    have k : (p :: r).map PCode.er = pl := unSeq_er c hr e
    exact k
  | .region _, _, _, h, _ => by cases h
  | .cond _ _ _, _, _, h, _ => by cases h
  | .block _ _, _, _, h, _ => by cases h
  | .loop _ _, _, _, h, _ => by cases h
  | .exit _, _, _, h, _ => by cases h
  | .ret, _, _, h, _ => by cases h
  | .die _ _ _, _, _, h, _ => by cases h

/-- The slots of the results that lie in memory. -/
def pinsOf (rs : List PRes) : List Nat := rs.filterMap fun | .cell a _ _ => some a | .tmp _ => none
def PRes.mem : PRes → Bool
  | .cell .. => true
  | .tmp _ => false

/-- One piece behind the other. -/
def pspine (G : Glob) (C : CallsP) (K : Slots → St → Prop) (Q : PEx → Slots → St → Prop) : List PCode → Slots → St → Prop
  | [] => K
  | p :: l => pwp G C p (PEx.next (pspine G C K Q l) Q)

theorem unSeq_spine {G : Glob} {C : CallsP} {K : Slots → St → Prop} {Q : PEx → Slots → St → Prop} : ∀ (c : PCode) {items : List PCode} {s : Slots} {t : St}, unSeq c = some items → pwp G C c (PEx.next K Q) s t → pspine G C K Q items s t
  | .skip, items, s, t, h, k => by cases h; exact k
  | .seq a b, items, s, t, h, k => by
    simp only [unSeq, Option.map_eq_some_iff] at h
    obtain ⟨r, hr, rfl⟩ := h
    refine pwp_mono ?_ (show pwp G C a (PEx.next (pwp G C b (PEx.next K Q)) (PEx.next K Q)) s t from k)
    intro e s t k
    cases e with
    | normal => exact unSeq_spine b hr k
    | exit id => exact k
    | ret => exact k
  | .keep l c, items, s, t, h, ⟨s', t', hf, k⟩ => by
    simp only [unSeq] at h
    split at h <;> cases h
    rename_i p r hr
    exact ⟨s', t', hf, unSeq_spine c hr k⟩
  | .region _, _, _, _, h, _ => by cases h
  | .cond _ _ _, _, _, _, h, _ => by cases h
  | .block _ _, _, _, _, h, _ => by cases h
  | .loop _ _, _, _, _, h, _ => by cases h
  | .exit _, _, _, _, h, _ => by cases h
  | .ret, _, _, _, h, _ => by cases h
  | .die _ _ _, _, _, _, h, _ => by cases h

/-- What is to hold where it ends. -/
def pend (rs : List PRes) (R : AV → St → Prop) (s : Slots) (t : St) : Prop := ∃ r r' st', pret rs s t = some r ∧ (r' = r ∨ r' = r.weak) ∧ st'.le t ∧ R r' st'

/-- Behind the region that puts the call off. -/
def ppost (P : Program) (G : Glob) (F : DFun) (R : AV → St → Prop) (s : Slots) (t : St) : Prop :=
  ∃ (E : PE) (g : FuncId) (first caps : List Dat), F.x.ev G s = .d (.fn g first caps) ∧ entered P g = true ∧
    (pwp G (PCallsE P G E) F.post (fun e s' t' => (∀ id, e ≠ .exit id) ∧ DCalls P G g (first.map .d ++ caps.map .d) none t' fun u => pend F.results R s' u) s t) ∧
    ∀ r u, E.E r u → DCalls P G g (first.map .d ++ caps.map .d) (some r) u fun u' => pend F.results R (trim (some (pinsOf F.results)) s) u'
def pdfr (P : Program) (G : Glob) (F : DFun) (R : AV → St → Prop) (s : Slots) (t : St) : Prop :=
  pwp G (PCalls P G) F.pre (PEx.next (fun s t => pops G (PCalls P G) F.init (fun X => ppost P G F R X.sl X.m.st) (pX s t)) (pfin F.results R)) s t

section
variable {P : Program} {G : Glob} {N : Nat} {s0 : St} {M0 : Mem} {w0 : World}

theorem panOk_no {D : Fr} {Qm : Exit → Act → World → Prop} : PanOk D G PE.no s0 M0 w0 Qm := fun _ _ _ _ _ _ _ _ _ _ h => h.elim

theorem spine_sound {md : Nat → Nat} {Qm : Exit → Act → World → Prop} {last : Code} {K : Slots → St → Prop} {Q : PEx → Slots → St → Prop}
    (hQ : ∀ e a w s t, e ≠ .normal → Rel Fr.no G N s0 M0 w0 s t a w → Q e s t → Qm (mEx e) a w) (hK : ∀ a w s t, Rel Fr.no G N s0 M0 w0 s t a w → K s t → last.wp P Qm a w) :
    ∀ (l : List Code) (pl : List PCode), l.mapM (compCode P md N) = some (pl.map PCode.er) → ∀ {s : Slots} {t : St} {a : Act} {w : World}, Rel Fr.no G N s0 M0 w0 s t a w → pspine G (PCalls P G) K Q pl s t → (l.foldr Code.seq last).wp P Qm a w
  | [], pl, hm, s, t, a, w, hR, h => by
    have : pl = [] := by simpa using hm.symm
    subst this
    exact hK _ _ _ _ hR h
  | c :: l, pl, hm, s, t, a, w, hR, h => by
    simp only [List.mapM_cons, Option.pure_def, Option.bind_eq_bind, Option.bind_eq_some_iff, Option.some.injEq] at hm
    obtain ⟨pc, hc, pl', hl, e⟩ := hm
    cases pl with
    | nil => cases e
    | cons p ps =>
      rw [List.map_cons, List.cons.injEq] at e
      obtain ⟨rfl, rfl⟩ := e
      rw [List.foldr_cons]
      refine wp_seq (code_sound (D := Fr.no) (E := PE.no) (Q := PEx.next (pspine G (PCalls P G) K Q ps) Q) hc (PCode.misses_nil _) ?_ panOk_no hR h)
      intro e a w s t hR k
      cases e with
      | normal => exact spine_sound hQ hK l ps hl hR k
      | exit id => exact hQ (.exit id) _ _ _ _ (by simp) hR k
      | ret => exact hQ .ret _ _ _ _ (by simp) hR k

theorem trim_out {l : List Nat} {s : Slots} {u : Nat} (h : u ∉ l) : trim (some l) s u = .undef := by
  simp only [trim]
  induction l with
  | nil => rfl
  | cons x l ih =>
    rw [List.foldr_cons]
    exact (if_neg (fun e => h (by rw [e]; exact List.mem_cons_self))).trans (ih (fun k => h (List.mem_cons_of_mem _ k)))

theorem last_split {ops : Array Oper} {o : Oper} (h : ops.toList.getLast? = some o) : ops.toList.dropLast ++ [o] = ops.toList ∧ ops.size = ops.toList.dropLast.length + 1 ∧ ops[ops.toList.dropLast.length]? = some o ∧
    ∀ j, j < ops.toList.dropLast.length → ops.toList.dropLast[j]? = ops[0 + j]? := by
  have hne : ops.toList ≠ [] := by rintro e; rw [e] at h; cases h
  have hcat : ops.toList.dropLast ++ [o] = ops.toList := by
    have := List.dropLast_concat_getLast hne
    rw [List.getLast?_eq_some_getLast hne, Option.some.injEq] at h
    rw [← h]; exact this
  refine ⟨hcat, ?_, ?_, fun j hj => ?_⟩
  · have := congrArg List.length hcat
    simpa using this.symm
  · have : ops[ops.toList.dropLast.length]? = (ops.toList.dropLast ++ [o])[ops.toList.dropLast.length]? := by rw [hcat]; simp
    rw [this]; simp
  · have hj2 : ops[j]? = (ops.toList.dropLast ++ [o])[j]? := by rw [hcat]; simp
    rw [Nat.zero_add, hj2, List.getElem?_append_left hj]

/-- A FUNCTION THAT PUTS A CALL OFF, BY VALUE. -/
theorem pcalls_of_dfr {md : Nat → Nat} {f : FuncId} {F : DFun} (hc : compDfr P md f = some F.er) {items : List PCode} (hun : unSeq F.pre = some items) (hent : entered P f = true) (hmem : F.results.all PRes.mem = true) (hmiss : F.post.er.misses (pinsOf F.results) = true) (hpin : (pinsOf F.results).all (fun i => decide (i < F.ntmps)) = true)
    {as : List AV} {st : St} {R : AV → St → Prop} (hlen : as.length ≤ F.ntmps) (h : pdfr P G F R (pinit as) st) : PCalls P G f as st R := by
  refine .of hent fun M w vals hW hA => ?_
  unfold compDfr at hc
  split at hc <;> (try (cases hc; done))
  rename_i fn hfn
  split at hc <;> (try (cases hc; done))
  rename_i c rs hb hrs
  split at hc <;> (try (cases hc; done))
  rename_i l id ops x b hsp
  split at hc <;> (try (cases hc; done))
  rename_i pre init y post hpre hinit hx hpost
  split at hc <;> (try (cases hc; done))
  rename_i hdst
  obtain ⟨Fpre, Finit, Fx, Fpost, Fn, Frs⟩ := F
  simp only [DFun.er, Option.some.injEq, DFun.mk.injEq] at hc
  obtain ⟨hpe, rfl, rfl, rfl, rfl, rfl⟩ := hc
  simp only at hmem hmiss hpin hlen hun
  obtain ⟨rfl, hdo⟩ := splitDfr_eq hsp
  have hsz : vals.size = as.length := by have := hA.1; simpa using this
  let RR : Ending → World → Prop := fun e w' => ∃ v r st' M', e = .returned v ∧ WRel G M' st' w' ∧ AVRel M' r v ∧ Frame st st' M M' w w' ∧ R r st'
  refine calls_of_wp_defers (R := RR) hfn hb ?_
  have hR : Rel Fr.no G fn.ntmps st M w (pinit as) st { tmps := vals ++ Array.replicate (fn.ntmps - vals.size) undef, defers := [] } w := by
    refine ⟨M, ⟨hW, fun t => ?_, by simp; omega, rfl, fun p hp => by cases hp⟩, .refl _ _ _⟩
    simp only [pinit, Array.getD_eq_getD_getElem?]
    by_cases ht : t < as.length
    · rw [Array.getElem?_append_left (by omega), Array.getElem?_eq_getElem (by omega)]
      simp only [List.getD, List.getElem?_eq_getElem ht, Option.getD_some]
      have := hA.2 t ht (by simpa [hsz] using ht)
      simpa using this
    · rw [Array.getElem?_append_right (by omega)]
      have e1 : as.getD t (.tup []) = .tup [] := by simp [List.getD, List.getElem?_eq_none (by omega : as.length ≤ t)]
      have e2 : ((Array.replicate (fn.ntmps - vals.size) undef)[t - vals.size]?).getD undef = undef := by
        rw [Array.getElem?_replicate]; split <;> rfl
      rw [e1, e2]
      exact .tup [] [] rfl (fun i h => by simp at h)
  -- what is read at the end
  have fin : ∀ (tmps : Array Value) (w' : World) (s : Slots) (t : St) (M' : Mem), WRel G M' t w' → (∀ i, AVRel M' (s i) (tmps.getD i undef)) → Frame st t M M' w w' → pend rs R s t →
      ∃ v, (results fn tmps).run P w' = .ok v w' ∧ ∃ v_1 r st' M', Ending.returned v = .returned v_1 ∧ WRel G M' st' w' ∧ AVRel M' r v_1 ∧ Frame st st' M M' w w' ∧ R r st' := by
    rintro tmps w' s t M' hW' hs hF ⟨r, r', st', hr, hw, hle, hRr⟩
    obtain ⟨u, e1, e2⟩ := results_run hrs hW' hs hr
    exact ⟨u, e1, u, r', st', M', rfl, hW'.shrink hle, hw.elim (fun h => h.symm ▸ e2) (fun h => h.symm ▸ weak_rel e2), hF.shrink hle, hRr⟩
  refine spine_sound (Q := pfin rs R) ?_ ?_ l items (by rw [hpre, unSeq_er Fpre hun hpe.symm]) hR (unSeq_spine Fpre hun h)
  · rintro e a w' s t hne ⟨M', ⟨hW', hs, hn, hd⟩, hF⟩ hk
    cases e with
    | normal => exact absurd rfl hne
    | ret =>
      obtain ⟨v, h1, h2⟩ := fin a.tmps w' s t M' hW' hs hF hk
      show Leaves P fn a.tmps RR a.defers .returning w'
      rw [hd.1]
      exact ⟨v, h1, h2⟩
    | exit id => exact hk.elim
  · intro a w' s t hR' hk
    unfold dfrOf at hdo
    split at hdo <;> (try (cases hdo; done))
    split at hdo <;> (try (cases hdo; done))
    rename_i o hlast
    split at hdo <;> (try (cases hdo; done))
    rename_i call ho hg hod
    split at hdo <;> (try (cases hdo; done))
    rename_i y' hcal hargs
    cases hdo
    obtain ⟨_, hlen2, hoi, hget⟩ := last_split hlast
    refine wp_seq (wp_region ?_)
    have hlp := list_wp (D := Fr.no) (E := PE.no) (Q := Exit.then (b.wp P (bodyPostD P fn RR)) (bodyPostD P fn RR)) (tl := [ops.toList.dropLast.length]) panOk_no (K := fun X => ppost P G ⟨Fpre, init, y, Fpost, fn.ntmps, rs⟩ R X.sl X.m.st) ?_ ops.toList.dropLast 0 init hinit hget
      (dstsOk_of hdst (List.all_eq_true.2 fun o _ => by unfold POper.misses; split <;> rfl)) (pX s t) a w' hR' hk
    · rw [hlen2, List.range_eq_range', List.range'_concat]
      simpa using hlp
    · rintro a w1 X ⟨M1, ⟨hW1, hs1, hn1, hd1⟩, hF1⟩ ⟨E, g, first, caps, hxe, hge, hpo, hpan⟩
      simp only at hxe hpo hpan
      rw [wpOps_cons]
      unfold wpOp
      rw [hoi]
      simp only
      rw [if_pos (by simp [Region.wanted, hg])]
      left
      have h1 := cArg_rel (x := X) (⟨hW1, hs1, hn1, hd1⟩ : XRel Fr.no G M1 fn.ntmps X a w1) hx
      rw [hxe] at h1
      obtain ⟨fs, cs, hv, hf1, hf2⟩ := inv_fn h1
      have hargs0 : call.args = #[] := by rw [← Array.toArray_toList (xs := call.args), hargs]
      have hrun : (execOp a.eval o).run P w1 = .ok (.defer { target := .fn (.func g) cs.toArray, args := fs.toArray }) w1 := by
        simp [execOp, ho, resolve, hcal, hargs0, hv, Deferred.ofValue]
      unfold Oper.wp
      rw [hrun, Oper.upon_defer, hod]
      show wpOps P ops _ [] _ w1
      simp only [wpOps, Exit.then, Act.put]
      -- behind it
      let d : Deferred := { target := .fn (.func g) cs.toArray, args := fs.toArray }
      let D : Fr := ⟨[d], (pinsOf rs).map fun i => (i, a.tmps.getD i undef)⟩
      have hinv : ∀ w2, (invoke (.fn (.func g) cs.toArray) fs.toArray).run P w2 = .ok (.enter g (fs.toArray ++ cs.toArray)) w2 := fun w2 => by
        simp only [invoke]
        exact run_callFunc_ent hge _ _
      have hall : ∀ i ∈ pinsOf rs, i < fn.ntmps := fun i hi => by simpa using List.all_eq_true.1 hpin i hi
      have hR2 : Rel D G fn.ntmps X.m.st M1 w1 X.sl X.m.st { a with defers := d :: a.defers } w1 := by
        refine ⟨M1, ⟨hW1, hs1, hn1, ?_, fun p hp => ?_⟩, .refl _ _ _⟩
        · show d :: a.defers = [d]
          rw [hd1.1]; rfl
        · obtain ⟨i, hi, rfl⟩ := List.mem_map.1 hp
          have : i < a.tmps.size := by rw [hn1]; exact hall i hi
          simp [Array.getD_eq_getD_getElem?, Array.getElem?_eq_getElem this]
      have hargsR : ARel M1 (first.map .d ++ caps.map .d) (fs.toArray ++ cs.toArray).toList := by simpa using hf1.append hf2
      refine code_sound (E := E) hpost (by simpa [D, List.map_map, Function.comp_def] using hmiss) (Q := fun e s' t' => (∀ id, e ≠ .exit id) ∧ DCalls P G g (first.map .d ++ caps.map .d) none t' fun u => pend rs R s' u) ?_ ?_ hR2 hpo
      · rintro e a2 w2 s2 t2 ⟨M2, ⟨hW2, hs2, hn2, hd2⟩, hF2⟩ ⟨hne, _, hdc⟩
        have key : Leaves P fn a2.tmps RR a2.defers .returning w2 := by
          rw [hd2.1]
          refine leaves_cons (f := g) (args := fs.toArray ++ cs.toArray) (by simp) (hinv _) ?_
          refine (hdc M2 w2 _ hW2 (hargsR.mono hF2.mle) .returning rfl).mono ?_
          rintro e u' w3 ⟨v, st3, M3, rfl, hu, hW3, hF3, hp⟩
          simp only [hu]
          exact fin a2.tmps w3 s2 st3 M3 hW3 (fun i => (hs2 i).mono hF3.mle) ((hF1.trans hF2).trans hF3) hp
        cases e with
        | normal => exact key
        | ret => exact key
        | exit id => exact absurd rfl (hne id)
      · intro v r st2 M2 a2 w2 hW2 hr hd2 hF2 hE
        show Leaves P fn a2.tmps RR a2.defers (.panicking [{ v := v, recovered := false }]) w2
        rw [hd2.1]
        refine leaves_cons (f := g) (args := fs.toArray ++ cs.toArray) (by simp) (hinv _) ?_
        refine ((hpan r st2 hE).2 M2 w2 _ hW2 (hargsR.mono hF2.mle) _ ⟨v, hr, rfl⟩).mono ?_
        rintro e u' w3 ⟨v3, st3, M3, rfl, hu, hW3, hF3, hp⟩
        simp only [hu]
        refine fin a2.tmps w3 _ st3 M3 hW3 (fun i => ?_) ((hF1.trans hF2).trans hF3) hp
        by_cases hi : i ∈ pinsOf rs
        · have h5 := hd2.2 _ (List.mem_map_of_mem (f := fun i => (i, a.tmps.getD i undef)) hi)
          simp only at h5
          have h6 : a2.tmps.getD i undef = a.tmps.getD i undef := by rw [Array.getD_eq_getD_getElem?, h5]; rfl
          rw [h6]
          rcases trim_get (pinsOf rs) X.sl i with e | e <;> rw [e]
          · exact (hs1 i).mono (hF2.mle.trans hF3.mle)
          · exact .undef _
        · rw [trim_out hi]
          exact .undef _


/-! The closure itself. -/
theorem wpOpsS_of {ops : Array Oper} {Q : Exit → Act → List Go.Frame → World → Prop} {cs : List Go.Frame} (hno : ¬ LetsOut fun e a w => Q e a cs w) :
    ∀ (l : List Nat) (a : Act) (w : World), wpOps P ops (fun e a w => Q e a cs w) l a w → wpOpsS P ops Q l a cs w
  | [], a, w, h => h
  | i :: rest, a, w, h => by
    simp only [wpOps, wpOpsS] at h ⊢
    cases ho : ops[i]? with
    | none =>
      rw [ho] at h
      simp only at h ⊢
      exact wpOpsS_of hno rest a w h
    | some o =>
      rw [ho] at h
      simp only at h ⊢
      split at h
      · rename_i hw
        rw [if_pos hw]
        rcases h with h | h
        · unfold Oper.wp at h
          have h2 := Oper.wp_mono (P := P) (o := o) (a := a) (w := w) (K' := fun a' w' => wpOpsS P ops Q rest a' cs w') (fun a' w' k => wpOpsS_of hno rest a' w' k) h
          unfold Oper.wp at h2
          generalize (execOp a.eval o).run P w = r at h2 ⊢
          split
          · exact h2.elim
          · exact h2
        · exact absurd h.2 hno
      · rename_i hw
        rw [if_neg hw]
        exact wpOpsS_of hno rest _ w h

/-- A closure whose first operation is 'recover'. -/
def recOf (ops : Array Oper) (draw : Bool) : Option Nat :=
  if draw = true then none else
  match ops.toList with
  | o :: _ => match o.op, o.guard, o.dst with
    | .call c, none, some d => match c.callee, c.args.toList with
      | .builtin .recover, [] => some d
      | _, _ => none
    | _, _, _ => none
  | [] => none
structure RFun where
  d : Nat
  ops : List POper
  post : PCode
  ntmps : Nat
def compRec (P : Program) (md : Nat → Nat) (f : FuncId) : Option RFun :=
  match P.funcs[f]? with
  | none => none
  | some fn => match fn.body, fn.results.toList with
    | some (.seq (.region _ ops draw) b), [] =>
      match recOf ops draw, ops.toList.tail.mapM (compOper P false false 0 ops), compCode P md fn.ntmps b with
      | some d, some pl, some post =>
        if (pl.all fun o => match o.dst with | some d => decide (d < fn.ntmps) | none => true) = true ∧ d < fn.ntmps then some ⟨d, pl, post, fn.ntmps⟩ else none
      | _, _, _ => none
    | _, _ => none
def RFun.er (p : RFun) : RFun := ⟨p.d, p.ops, p.post.er, p.ntmps⟩

theorem dcalls_of {md : Nat → Nat} {f : FuncId} {F : RFun} (hc : compRec P md f = some F.er) (hent : entered P f = true) {as : List AV} {st : St} {u : Option AV} {R : St → Prop} (hlen : as.length ≤ F.ntmps)
    (h : pops G (PCalls P G) F.ops (fun X => pwp G (PCalls P G) F.post (fun e _ t => (∀ id, e ≠ .exit id) ∧ R t) X.sl X.m.st) (pX (put (pinit as) (some F.d) (u.getD (.d .nili))) st)) : DCalls P G f as u st R := by
  refine ⟨hent, fun M w vals hW hA um hum => ?_⟩
  unfold compRec at hc
  split at hc <;> (try (cases hc; done))
  rename_i fn hfn
  split at hc <;> (try (cases hc; done))
  rename_i id ops draw b hb hres
  split at hc <;> (try (cases hc; done))
  rename_i d pl post hd hpl hpost
  split at hc <;> (try (cases hc; done))
  rename_i hdst
  obtain ⟨Fd, Fops, Fpost, Fn⟩ := F
  simp only [RFun.er, Option.some.injEq, RFun.mk.injEq] at hc
  obtain ⟨rfl, rfl, rfl, rfl⟩ := hc
  simp only at h hlen
  unfold recOf at hd
  split at hd <;> (try (cases hd; done))
  rename_i hdraw
  have hdraw' : draw = false := by simpa using hdraw
  subst hdraw'
  split at hd <;> (try (cases hd; done))
  rename_i o ol hops
  split at hd <;> (try (cases hd; done))
  rename_i call d1 ho hg hod
  split at hd <;> (try (cases hd; done))
  rename_i hcal hargs
  cases hd
  have hsz : vals.size = as.length := by have := hA.1; simpa using this
  refine callsD_of_wpS hfn hb fun c₀ cs0 hcm => ?_
  let RR : Ending → FrameMode → World → Prop := fun e u' w' => ∃ v st' M', e = .returned v ∧ settle u' = .returning ∧ WRel G M' st' w' ∧ Frame st st' M M' w w' ∧ R st'
  show (Code.seq (.region id ops false) b).wpS P (bodyPostS P fn c₀ cs0 RR) _ _ _
  refine wpS_seq (wpS_region ?_)
  have hsize : ops.size = ol.length + 1 := by rw [← Array.length_toList, hops]; rfl
  have ho0 : ops[0]? = some o := by rw [← Array.getElem?_toList, hops]; rfl
  rw [hsize, List.range_eq_range', List.range'_succ]
  simp only [wpOpsS, ho0]
  rw [if_pos (by simp [Region.wanted, hg])]
  have hargs0 : call.args = #[] := by rw [← Array.toArray_toList (xs := call.args), hargs]
  have hrun : ∀ (a : Act) w1, (execOp a.eval o).run P w1 = .ok .recover w1 := fun a w1 => by
    simp [execOp, ho, resolve, hcal, hargs0, invoke, builtin]
  rw [hrun]
  simp only
  have hR : ∀ (v : Value), AVRel M (u.getD (.d .nili)) v → Rel Fr.no G fn.ntmps st M w (put (pinit as) (some d) (u.getD (.d .nili))) st (({ tmps := vals ++ Array.replicate (fn.ntmps - vals.size) undef, defers := [] } : Act).put (some d) v) w := by
    intro v hv
    have hR0 : XRel Fr.no G M fn.ntmps (pX (pinit as) st) { tmps := vals ++ Array.replicate (fn.ntmps - vals.size) undef, defers := [] } w := by
      refine ⟨hW, fun t => ?_, by simp; omega, rfl, fun p hp => by cases hp⟩
      simp only [pX, pinit, Array.getD_eq_getD_getElem?]
      by_cases ht : t < as.length
      · rw [Array.getElem?_append_left (by omega), Array.getElem?_eq_getElem (by omega)]
        simp only [List.getD, List.getElem?_eq_getElem ht, Option.getD_some]
        have := hA.2 t ht (by simpa [hsz] using ht)
        simpa using this
      · rw [Array.getElem?_append_right (by omega)]
        have e1 : as.getD t (.tup []) = .tup [] := by simp [List.getD, List.getElem?_eq_none (by omega : as.length ≤ t)]
        have e2 : ((Array.replicate (fn.ntmps - vals.size) undef)[t - vals.size]?).getD undef = undef := by
          rw [Array.getElem?_replicate]; split <;> rfl
        rw [e1, e2]
        exact .tup [] [] rfl (fun i h => by simp at h)
    have := hR0.put (m' := (pX (pinit as) st).m) (d := some d) (.refl _) hW hv (fun t ht => by cases ht; exact ⟨hdst.2, fun p hp => by cases hp⟩)
    exact ⟨M, ⟨this.w, this.s, this.n, this.d⟩, .refl _ _ _⟩
  have main : ∀ (cs1 : List Go.Frame) (um' : FrameMode), cs1 = { c₀ with mode := um' } :: cs0 → settle um' = .returning → ∀ (a : Act), Rel Fr.no G fn.ntmps st M w (put (pinit as) (some d) (u.getD (.d .nili))) st a w →
      wpOpsS P ops (Exit.thenS (b.wpS P (bodyPostS P fn c₀ cs0 RR)) (bodyPostS P fn c₀ cs0 RR)) (List.range' (0 + 1) ol.length) a cs1 w := by
    intro cs1 um' hcs hset a hRa
    refine wpOpsS_of ?_ _ a w ?_
    · rintro ⟨a1, w1, hq⟩
      obtain ⟨u', v, st', M', hv, _⟩ : ∃ u', RR .outgrown u' w1 := hq
      cases hv
    · have hlp := list_wp (D := Fr.no) (E := PE.no) (Q := fun e a w => Exit.thenS (b.wpS P (bodyPostS P fn c₀ cs0 RR)) (bodyPostS P fn c₀ cs0 RR) e a cs1 w) (tl := []) panOk_no
        (K := fun X => pwp G (PCalls P G) Fpost (fun e _ t => (∀ id, e ≠ .exit id) ∧ R t) X.sl X.m.st) ?_ ol 1 pl (by rw [hops] at hpl; exact hpl) (fun j _ => by
          have : ops[1 + j]? = ops.toList[1 + j]? := by simp
          rw [this, hops, Nat.add_comm 1 j]; rfl) (dstsOk_of hdst.1 (List.all_eq_true.2 fun o _ => by unfold POper.misses; split <;> rfl)) _ a w hRa h
      · simpa using hlp
      · intro a1 w1 X hR1 hK
        show b.wpS P (bodyPostS P fn c₀ cs0 RR) a1 cs1 w1
        refine wpS_of_wp (code_sound (E := PE.no) (D := Fr.no) hpost (PCode.misses_nil _) (Qm := fun e a' w' => bodyPostS P fn c₀ cs0 RR e a' cs1 w') ?_ panOk_no hR1 hK)
        rintro e a2 w2 s2 t2 ⟨M2, ⟨hW2, hs2, hn2, hd2⟩, hF2⟩ ⟨hne, hRt⟩
        have hr0 : fn.results = #[] := by rw [← Array.toArray_toList (xs := fn.results), hres]
        have hrr : (results fn a2.tmps).run P w2 = .ok (.tuple #[]) w2 := by simp [results, hr0]
        have key : a2.defers = [] ∧ ∃ u', cs1 = { c₀ with mode := u' } :: cs0 ∧ ∃ v, (results fn a2.tmps).run P w2 = .ok v w2 ∧ RR (.returned v) u' w2 :=
          ⟨hd2.1, um', hcs, _, hrr, _, t2, M2, rfl, hset, hW2, hF2, hRt⟩
        cases e with
        | normal => exact key
        | ret => exact key
        | exit id => exact absurd rfl (hne id)
  cases u with
  | none =>
    simp only at hum
    subst hum
    have hrec : recoverD (c₀ :: cs0) = none := by simp [recoverD, hcm]
    rw [hrec]
    simp only
    rw [hod]
    refine main _ .returning ?_ rfl _ (hR .nilIface (.d _ _ .nili))
    cases c₀; simp_all
  | some r =>
    obtain ⟨v, hv, rfl⟩ := hum
    have hrec : recoverD (c₀ :: cs0) = some (v, { c₀ with mode := .panicking [{ v := v, recovered := true }] } :: cs0) := by simp [recoverD, hcm]
    rw [hrec]
    simp only
    rw [hod]
    exact main _ _ rfl rfl _ (hR v hv)

end
end Go.Pv
/- Rules: variables that nobody writes any more; copy; a row that grows in its variable. No condition. -/
namespace Go.Pv

theorem Lay.apartOf {st t : St} {b : Nat} {l : List AV} {L : List Item} (h : Lay st (.box b l :: L) t) {x : Item} (hx : x ∈ L) : x.blk ≠ some b := (List.pairwise_cons.1 h.apart).1 x hx b rfl
theorem Lay.dropB {st t : St} {b : Nat} {cells : List AV} {L : List Item} (h : Lay st (.box b cells :: L) t) : Lay st L (t.dropBox b) := by
  have hnb := h.new _ List.mem_cons_self b rfl
  refine ⟨⟨fun c l hc => ?_, h.le.tok⟩, fun x hx => ?_, fun x hx => h.new x (List.mem_cons_of_mem _ hx), (List.pairwise_cons.1 h.apart).2⟩
  · rw [St.box_dropBox, if_neg (fun e => by subst e; rw [hnb.1] at hc; cases hc)]
    exact h.le.box c l hc
  · have hx' := h.ok x (List.mem_cons_of_mem _ hx)
    have hb := h.apartOf hx
    cases x with
    | box c l =>
      show (t.dropBox b).box c = some l
      rw [St.box_dropBox, if_neg (fun e => hb (by rw [e]; rfl))]
      exact hx'
    | vec v rows sz => exact hx'
    | tk c k => exact hx'
theorem Lay.neq {st t : St} {b c : Nat} {l k : List AV} {L R : List Item} (h : Lay st (.box b l :: L) t) (hr : Rem (.box c k) L R) : c ≠ b := fun e => h.apartOf (hr.perm.mem_iff.2 List.mem_cons_self) (by rw [e]; rfl)
theorem Lay.elt {st t : St} {b : Nat} {cells : List AV} {ds : List Dat} {L : List Item} (h : Lay st (.box b cells :: L) t) (hw : cells.map AV.weak1 = ds.map .d) :
    ∃ t', (∀ s, Frz s t (fun i => (s i).elt1 b ds) t') ∧ Lay st L t' := ⟨t.dropBox b, fun s => .elt b ds cells h.head hw (.refl _ _), h.dropB⟩
theorem elt_put (s : Slots) (d : Option Nat) (v : AV) (b : Nat) (ds : List Dat) : (fun i => (put s d v i).elt1 b ds) = put (fun i => (s i).elt1 b ds) d (v.elt1 b ds) := by
  funext i
  cases d with
  | none => rfl
  | some k =>
    simp only [put]
    split <;> rfl
theorem elt_undef (b : Nat) (ds : List Dat) : (fun _ : Nat => AV.undef.elt1 b ds) = fun _ => AV.undef := rfl
theorem elt_hit (b : Nat) (ds : List Dat) : (ptrAt b).elt1 b ds = .elt ds := by simp [ptrAt, AV.elt1]
theorem elt_miss {b c : Nat} (ds : List Dat) (h : c ≠ b) : (ptrAt c).elt1 b ds = ptrAt c := by simp [ptrAt, AV.elt1, h]
/-- Slots that don't point. -/
theorem pve (b : Nat) (ds : List Dat) : (∀ (k : IntKind) (n : Int), (AV.d (.int k n)).elt1 b ds = .d (.int k n)) ∧ (∀ n : Int, (i64 n).elt1 b ds = i64 n) ∧ (∀ x : Bool, (b2 x).elt1 b ds = b2 x) ∧ (∀ x : Bool, (AV.d (.bool x)).elt1 b ds = .d (.bool x)) ∧ (∀ x : ByteArray, (AV.d (.str x)).elt1 b ds = .d (.str x)) ∧ (∀ r, (AV.d (.sl r)).elt1 b ds = .d (.sl r)) ∧ (∀ l, (AV.agg l).elt1 b ds = .agg l) ∧ (∀ l, (AV.full l).elt1 b ds = .full l) ∧
    (∀ a l c, (AV.own a l c).elt1 b ds = .own a l c) ∧ (∀ l, (AV.elt l).elt1 b ds = .elt l) ∧ (∀ l, (AV.tup l).elt1 b ds = .tup l) :=
  ⟨fun _ _ => rfl, fun _ => rfl, fun _ => rfl, fun _ => rfl, fun _ => rfl, fun _ => rfl, fun _ => rfl, fun _ => rfl, fun _ _ _ => rfl, fun _ => rfl, fun _ => rfl⟩

theorem pstartO {G : Glob} {C : CallsP} {pl : List POper} {K : X → Prop} {s : Slots} {st : St} (h : ∀ t, Lay st [] t → pops G C pl K (pX s t)) : pops G C pl K (pX s st) := h st (.nil st)

section
variable {G : Glob} {C : CallsP}
theorem po_copyL {st t : St} {L R : List Item} {sz : Nat} {x y : Arg} {d : Option Nat} {rest : List POper} {K : X → Prop} {s : Slots} {m : Mx} {b o n cap n' : Nat} {cells cs out : List AV} {v : AV} (hL : Lay st L t) (hm : m.st = t) (hx : x.ev G s = .bsl b o n cap) (hr : Rem (.box b cells) L R)
    (hy : y.ev G s = v) (hn : v.slen = some n') (hsrc : srcCells t (min n' n * sz) v = some cs) (hl : cs.length = min n' n * sz ∧ cs.all AV.sc = true) (hfit : o + min n' n * sz ≤ cells.length) (hrows : ∀ r, v.rows? = some r → ∀ l ∈ r, l.length = sz)
    (hout : cells.take o ++ cs ++ cells.drop (o + min n' n * sz) = out) (h : ∀ t', Lay st (.box b out :: R) t' → pops G C rest K ⟨put s d (i64 (min n' n : Nat)), Mx.new t'⟩) : pops G C (⟨d, .copy sz x y, none⟩ :: rest) K ⟨s, m⟩ := by
  rw [pops_plain]
  unfold ostep
  subst hout
  simp only [nf, hx, hy]
  exact ⟨cells, n', cs, by rw [hm]; exact hL.get hr, hn, by rw [hm]; exact hsrc, hl, hfit, hrows, h _ (by rw [hm]; exact (hL.rem hr).store _)⟩
/-- What stood there is stored again. -/
theorem St.setBox_same {t : St} {b : Nat} {cells : List AV} (h : t.box b = some cells) : t.setBox b cells = t := by
  refine St.ext' (funext fun c => ?_) rfl
  rw [St.box_setBox]
  split
  · rename_i e; rw [e, h]
  · rfl
theorem po_storeSame {t : St} {sz : Nat} {x y : Arg} {d : Option Nat} {rest : List POper} {K : X → Prop} {s : Slots} {m : Mx} {b o : Nat} {cs cells : List AV} (hm : m.st = t) (hx : x.ev G s = .d (.ptr b o)) (hb : t.box b = some cells) (hy : (y.ev G s).cells = cs)
    (hl : cs.length = sz ∧ cs.all AV.sc = true) (ho : o + sz ≤ cells.length) (hout : cells.take o ++ cs ++ cells.drop (o + sz) = cells) (hh : m.holds t)
    (h : pops G C rest K ⟨put s d .undef, m.past t⟩) : pops G C (⟨d, .store sz x y, none⟩ :: rest) K ⟨s, m⟩ := by
  subst hm
  have e := St.setBox_same hb
  exact po_store hx hy hb hl ho hout (by rw [e]; exact hh) (by rw [e]; exact h)
/-- All of a call that may not return. -/
theorem po_callE {f : FuncId} {args : List Arg} {d : Option Nat} {rest : List POper} {K : X → Prop} {s : Slots} {m : Mx} {xs : List AV} {R : AV → St → Prop} (hc : C f xs m.st R) (h : ∀ r st', R r st' → pops G C rest K ⟨put s d r, m.past st'⟩)
    (hargs : (args.map fun (p : Arg) => p.ev G s).map AV.weak = xs := by rfl) (hw : ∀ b c, ¬ m.watch b c := by exact fun _ _ h => h) : pops G C (⟨d, .callE f args, none⟩ :: rest) K ⟨s, m⟩ := by
  rw [pops_plain]
  unfold ostep
  simp only [nf, hargs]
  exact ⟨R, hc, fun r st' hr => ⟨fun b c hb => absurd hb (hw b c), h r st' hr⟩⟩
/-- Where something is looked at for good: it is as it was behind the call. -/
theorem po_callEW {f : FuncId} {args : List Arg} {d : Option Nat} {rest : List POper} {K : X → Prop} {s : Slots} {m : Mx} {xs : List AV} {R : AV → St → Prop} (hc : C f xs m.st R) (h : ∀ r st', R r st' → m.holds st' ∧ pops G C rest K ⟨put s d r, m.past st'⟩)
    (hargs : (args.map fun (p : Arg) => p.ev G s).map AV.weak = xs := by rfl) : pops G C (⟨d, .callE f args, none⟩ :: rest) K ⟨s, m⟩ := by
  rw [pops_plain]
  unfold ostep
  simp only [nf, hargs]
  exact ⟨R, hc, h⟩
theorem Pure.may {P : Program} {G : Glob} (E : PE) {f : FuncId} {xs : List AV} {v : AV} (h : Pure (PCalls P G) f xs v) : Pure (PCallsE P G E) f xs v := fun st => (h st).may E
/-- A panic with such a value, where these variables still stand. -/
def PE.at (V : AV → Prop) (st0 : St) : PE := ⟨fun r u => V r ∧ st0.le u, fun _ u b cells hb h => ⟨h.1, h.2.setBox cells (by
  cases e : st0.box b with
  | none => rfl
  | some c => have := h.2.box b c e; rw [hb.1] at this; cases this)⟩⟩
theorem die_ok {P : Program} {G : Glob} {E : PE} {n : Nat} {v : AV} {st : St} (hn : n = P.funcs.size) (h : E.E v st) : PCallsE P G E n [v] st (fun _ _ => False) := .inr ⟨hn, fun _ _ h => h, v, rfl, h⟩
theorem pdie {n : Nat} {pl : List POper} {x : Arg} {Q : PEx → Slots → St → Prop} {s : Slots} {t : St} (h : pops G C pl (fun X => (x.ev G X.sl).isIfc = true ∧ C n [x.ev G X.sl] X.m.st fun _ _ => False) (pX s t)) : pwp G C (.die n pl x) Q s t := h
end
end Go.Pv
/- A call upon a variable's row that is still written to: it looks, and gives a number. No condition. -/
namespace Go.Pv

def St.nil : St := ⟨fun _ => Option.none, fun _ => Option.none, ⟨0, fun _ _ => ⟨rfl, rfl⟩⟩⟩
/-- Not told by what memory holds. -/
def Dat.flat : Dat → Bool
  | .int _ _ | .bool _ | .flt _ _ | .str _ => true
  | _ => false
theorem Dat.flat_rel {M M' : Mem} {d : Dat} {v : Value} (hd : d.flat = true) (h : DRel M d v) : DRel M' d v := by
  cases h <;> first | (cases hd; done) | exact .int _ _ | exact .bool _ | exact .flt _ _ | exact .str _

theorem PCalls.thaw {P : Program} {G : Glob} {E : PE} {f : FuncId} {rows : List (List Dat)} {sz : Nat} {d : Dat} (h : Pure (PCalls P G) f [.d (.sl rows)] (.d d)) (hd : d.flat = true)
    {b cap : Nat} {cells rest : List AV} {st : St} (hb : st.box b = some cells) (hw : cells.map AV.weak1 = rows.flatten.map .d ++ rest) (hs : ∀ r ∈ rows, r.length = sz) :
    PCallsE P G E f [.bsl b 0 rows.length cap] st (fun r st' => st' = st ∧ r = .d d) := by
  obtain ⟨hent, hcall⟩ := (h St.nil).ends
  refine .of hent fun M w vals hW hA => ?_
  obtain ⟨ty, cs, h1, h2, h3⟩ := hW.box b _ hb
  have hlen : rows.flatten.length = rows.length * sz := flat_len hs
  let M' : Mem := fun c o => if c = b ∧ o < rows.length * sz then cs[o]? else M c o
  have hcl : cells.length = rows.flatten.length + rest.length := by
    have := congrArg List.length hw
    rwa [List.length_map, List.length_append, List.length_map] at this
  have hsz : ∀ o, o < rows.length * sz → o < cs.size := fun o ho => by rw [h2, hcl, hlen]; omega
  have hmle : MLe M M' := fun c o v e => by
    show (if _ then _ else _) = _
    rw [if_neg]
    · exact e
    · rintro ⟨rfl, _⟩; rw [hW.boxM _ _ hb o] at e; cases e
  have hm : ∀ o, o < rows.length * sz → M' b o = some (cs.getD o undef) := fun o ho => by
    show (if _ then _ else _) = _
    rw [if_pos ⟨rfl, ho⟩, Array.getD_eq_getD_getElem?, Array.getElem?_eq_getElem (hsz o ho)]; rfl
  have hdd : ∀ i j (hi : i < rows.length) (hj : j < rows[i].length), DRel M' rows[i][j] (cs.getD (i * sz + j) undef) := by
    intro i j hi hj
    have hg := flat_get hs i j hi hj
    obtain ⟨hlt, hg⟩ := List.getElem?_eq_some_iff.1 hg
    have hk : i * sz + j < cs.size := hsz _ (by rw [← hlen]; exact hlt)
    have hkc : i * sz + j < cells.length := by rw [hcl]; omega
    have := weak1_rel (h3 (i * sz + j) hkc hk)
    have hwe : cells[i * sz + j].weak1 = .d rows[i][j] := by
      have e := congrArg (fun l => l[i * sz + j]?) hw
      simp only [List.getElem?_map, List.getElem?_eq_getElem hkc, Option.map_some] at e
      rw [List.getElem?_append_left (by rw [List.length_map]; exact hlt), List.getElem?_map, List.getElem?_eq_getElem hlt, hg] at e
      exact Option.some.inj e
    rw [hwe] at this
    rw [Array.getD_eq_getD_getElem?, Array.getElem?_eq_getElem hk]
    cases this with
    | d _ _ hh => exact hh.mono hmle
  have hW' : WRel G M' St.nil w := by
    refine ⟨fun _ _ h => (by cases h), fun _ _ h => (by cases h), fun _ _ h => (by cases h), fun _ _ h => (by cases h), fun c o v hc => ?_, fun g cells hg i hi => ?_⟩
    · by_cases e : c = b ∧ o < rows.length * sz
      · have : M' c o = cs[o]? := if_pos e
        rw [this] at hc
        obtain ⟨rfl, _⟩ := e
        rw [cell_of_row _ _ _ _ _ _ h1]; exact hc
      · have : M' c o = M c o := if_neg e
        rw [this] at hc
        exact hW.imm c o v hc
    · obtain ⟨v, g1, g2⟩ := hW.glob g cells hg i hi
      exact ⟨v, hmle _ _ _ g1, g2.mono hmle⟩
  have hA' : ARel M' [.d (.sl rows)] vals.toList := by
    refine ⟨hA.1, fun i hi hi' => ?_⟩
    have h0 : i = 0 := by simp at hi; omega
    subst h0
    have := frz_rel hs hm hdd ((hA.2 0 (by simp) hi').mono hmle)
    rw [show AV.frz b rows ([AV.bsl b 0 rows.length cap][0]) = .d (.sl rows) by simp [AV.frz, AV.frz1]] at this
    exact this
  refine (hcall M' w vals hW' hA').mono ?_
  rintro e w' ⟨v, r, st', M2, rfl, hW2, hr, hF, rfl, rfl⟩
  have hblk : ∀ c, c < w.heap.size → w'.heap[c]? = w.heap[c]? := fun c hc => hF.blk c hc rfl rfl
  have hdr : DRel M d v := by
    cases hr with
    | d _ _ hh => exact Dat.flat_rel hd hh
  refine ⟨v, .d d, st, M, rfl, ⟨fun c l hc => ?_, hW.boxM, hW.boxT, fun c k hc => ?_, fun c o v hc => ?_, hW.glob⟩, .d _ _ hdr, ⟨hF.os, hF.tape, hF.output, hF.size, fun c hc _ _ => hblk c hc, fun _ _ _ _ _ => rfl, fun _ _ _ h => h, fun c hc h1 h2 => ⟨h1, h2⟩⟩, rfl, rfl⟩
  · rw [hblk c (hW.box_lt hc)]; exact hW.box c l hc
  · rw [hblk c (hW.tok_lt hc)]; exact hW.tok c k hc
  · have := hW.imm c o v hc
    unfold World.cell? at this ⊢
    rw [hblk c (hW.imm_lt hc)]
    exact this
section
variable {G : Glob} {C : CallsP}
/-- append to nothing: a variable's row, or part of it. -/
theorem po_appBX {st t : St} {L R : List Item} {sz bytes b off n cap : Nat} {x y : Arg} {d : Option Nat} {rest : List POper} {K : X → Prop} {s : Slots} {m : Mx} {cells : List AV} {news : List (List Dat)} (hL : Lay st L t) (hm : m.st = t) (hx : x.ev G s = .full []) (hy : y.ev G s = .bsl b off n cap)
    (hr : Rem (.box b cells) L R) (hc : (cells.drop off).take (n * sz) = news.flatten.map .d) (hn : news.length = n) (hs : ∀ r ∈ news, r.length = sz) (hfit : n * bytes ≤ 140737488355328) (h0 : n ≠ 0)
    (h : ∀ b' cap' t', n ≤ cap' → Lay st (.box b' (news.flatten.map .d ++ List.replicate ((cap' - n) * sz) .undef) :: L) t' → pops G C rest K ⟨put s d (.bsl b' 0 n cap'), m.setSt t'⟩) :
    pops G C (⟨d, .appB sz bytes x y, none⟩ :: rest) K ⟨s, m⟩ := by
  rw [pops_plain]
  unfold ostep
  simp only [nf, hx, hy]
  refine ⟨cells, news, by rw [hm]; exact hL.bx hr, hc, hn, hs, rfl, hfit, h0, fun b' cap' hb' hc' => h b' cap' _ hc' ?_⟩
  rw [hm] at hb' ⊢
  exact hL.alloc hb' _
theorem slc_bsl {s : Slots} {x a : Arg} {b n cap sz j : Nat} (hx : x.ev G s = .bsl b 0 n cap) (ha : a.ev G s = i64 j) (hj : j ≤ cap) : ev G s (.slc sz x none (some a)) = some (.bsl b 0 j cap) := by
  simp only [ev, hx, ha, bnds, bnd, i64, Option.map_some, Option.map_none]
  rw [if_pos (by omega)]
  simp
end
end Go.Pv
/- Rules: maps. No condition. -/
namespace Go.Pv
abbrev mtok (kd : KK) (es : List (AV × AV)) : Tok := ⟨0, 0, 0, some ⟨kd, es⟩⟩
section
variable {G : Glob} {C : CallsP}
theorem po_mkmapL {st t : St} {L : List Item} {kd : KK} {d : Option Nat} {rest : List POper} {K : X → Prop} {s : Slots} {m : Mx} (hL : Lay st L t)
    (h : ∀ b t', Lay st (.tk b (mtok kd []) :: L) t' → pops G C rest K ⟨put s d (.d (.mapr b)), Mx.new t'⟩) (hm : m.st = t := by rfl) : pops G C (⟨d, .mkmap kd, none⟩ :: rest) K ⟨s, m⟩ := by
  rw [pops_plain]
  unfold ostep
  simp only [nf]
  intro b hb
  rw [hm] at hb ⊢
  exact h b _ (hL.newTk hb _)
theorem po_minsL {st t : St} {L R : List Item} {kd : KK} {x k v : Arg} {d : Option Nat} {rest : List POper} {K : X → Prop} {s : Slots} {m : Mx} {b : Nat} {es es' : List (AV × AV)} {kv vv : AV} (hL : Lay st L t)
    (h : ∀ t', Lay st (.tk b (mtok kd es') :: R) t' → pops G C rest K ⟨put s d .undef, Mx.new t'⟩)
    (hm : m.st = t := by rfl) (hx : x.ev G s = .d (.mapr b) := by rfl) (hr : Rem (.tk b (mtok kd es)) L R := by (repeat (first | exact Rem.head | apply Rem.tail))) (hk : k.ev G s = kv := by rfl) (hi : keyIs kd kv = true := by rfl) (hv : (v.ev G s).weakA = vv := by rfl) (he : mput es kv vv = es' := by rfl) :
    pops G C (⟨d, .mins kd x k v, none⟩ :: rest) K ⟨s, m⟩ := by
  rw [pops_plain]
  unfold ostep
  simp only [nf, hx, hk, hv]
  refine ⟨es, by rw [hm]; exact hL.get hr, hi, ?_⟩
  rw [hm, he]
  exact h _ ((hL.rem hr).turnTk _)
theorem po_mgetL {st t : St} {L R : List Item} {kd : KK} {zero : AV} {ok : Bool} {x k : Arg} {d : Option Nat} {rest : List POper} {K : X → Prop} {s : Slots} {m : Mx} {b : Nat} {es : List (AV × AV)} {kv : AV} {o : Option AV} (hL : Lay st L t)
    (h : pops G C rest K ⟨put s d (match o with | some v => if ok = true then .tup [v, b2 true] else v | none => if ok = true then .tup [zero, b2 false] else zero), m⟩) (he : mat es kv = o)
    (hm : m.st = t := by rfl) (hx : x.ev G s = .d (.mapr b) := by rfl) (hr : Rem (.tk b (mtok kd es)) L R := by (repeat (first | exact Rem.head | apply Rem.tail))) (hk : k.ev G s = kv := by rfl) (hi : keyIs kd kv = true := by rfl) :
    pops G C (⟨d, .mget kd zero ok x k, none⟩ :: rest) K ⟨s, m⟩ := by
  rw [pops_plain]
  unfold ostep
  simp only [nf, hx, hk]
  refine ⟨es, by rw [hm]; exact hL.get hr, hi, ?_⟩
  rw [he]
  exact h
end
end Go.Pv
