/- Operations that read, make and write variables in memory. No condition. -/
import Derived.Test.YtdggkhnelmonkaaDoorP10
import Derived.Deep.MidRow
namespace Go.Pv

section
variable {D : Fr} {E : PE} {P : Program} {G : Glob} {M : Mem} {N : Nat} {x : X} {a : Act} {w : World} {o : Oper}

/-- What an operation leaves, its value told apart. -/
def KPost (G : Glob) (M : Mem) (x : X) (a : Act) (w : World) (o : Oper) (Q : AV → Mx → Prop) (a' : Act) (w' : World) : Prop :=
  ∃ v r m' M', a' = a.put o.dst v ∧ WRel G M' m'.st w' ∧ AVRel M' r v ∧ Frame x.m.st m'.st M M' w w' ∧ Q r m'

theorem wp_value {Q : AV → Mx → Prop} {Qe : Exit → Act → World → Prop} {v : Value} {w' : World} (hr : (execOp a.eval o).run P w = .ok (.value v) w') {r : AV} {m' : Mx} {M' : Mem}
    (h1 : WRel G M' m'.st w') (h2 : AVRel M' r v) (h3 : Frame x.m.st m'.st M M' w w') (h4 : Q r m') : o.wp P a w (KPost G M x a w o Q) Qe := by
  unfold Oper.wp
  rw [hr, Oper.upon_value]
  exact ⟨v, r, m', M', rfl, h1, h2, h3, h4⟩
theorem wp_skipped {Q : AV → Mx → Prop} {Qe : Exit → Act → World → Prop} {w' : World} (hr : (execOp a.eval o).run P w = .ok .skip w') {m' : Mx} {M' : Mem}
    (h1 : WRel G M' m'.st w') (h3 : Frame x.m.st m'.st M M' w w') (h4 : Q .undef m') : o.wp P a w (KPost G M x a w o Q) Qe := by
  unfold Oper.wp
  rw [hr, Oper.upon_skip]
  exact ⟨undef, .undef, m', M', rfl, h1, .undef _, h3, h4⟩
theorem Gives.wp {Q : AV → Mx → Prop} {Qe : Exit → Act → World → Prop} {r : AV} (h : Gives P G M x.m.st a w o r) (hq : Q r x.m) : o.wp P a w (KPost G M x a w o Q) Qe := by
  obtain ⟨v, w', M', h1, h2, h3, h4⟩ := h
  exact wp_value h1 h3 h2 h4 hq

theorem aggT_row {t : TypeId} (h : aggT P t = some true) : ∃ d, P.underlying t = some d ∧ d.isRow = true := by
  unfold aggT at h
  split at h
  · rename_i hu; exact ⟨_, hu, rfl⟩
  · rename_i hu; exact ⟨_, hu, rfl⟩
  · cases h
  · cases h

theorem load_run {t : TypeId} {sz : Nat} {ag : Bool} (hs : sizeT P t = some sz) (hag : aggT P t = some ag) {b off : Nat} {l : List AV} {cs : List Value} (hA : ARel M l cs)
    (hc : ∀ j (h : j < cs.length), w.cell? ⟨b, off + j, none⟩ = some cs[j]) {r : AV} (hr : ldv ag sz l = some r) :
    ∃ v, (Instr.loadAt t (.pointer (some ⟨b, off, none⟩))).run P w = .ok v w ∧ AVRel M r v := by
  unfold ldv at hr
  split at hr
  · cases hr
  · rename_i hl
    obtain ⟨h0, ⟨i, hi1, hi2⟩, hsz⟩ := sizeT_some hs
    split at hr
    · rename_i hb
      cases hr
      subst hb
      obtain ⟨d, hu, hd⟩ := aggT_row hag
      have hA' := hA.take sz
      refine ⟨.agg (cs.take sz).toArray, ?_, .agg _ _ hA'.1 hA'.2⟩
      refine run_loadAt_mid w b off t (cs.take sz) d (fun j v hj => ?_) hu hd ?_
      · obtain ⟨hlt, rfl⟩ := List.getElem?_eq_some_iff.1 hj
        rw [List.getElem_take]
        exact hc j (by simp at hlt; omega)
      · have := hA.1
        simp [hi1, hi2]; omega
    · rename_i hb
      have hb : ag = false := by simpa using hb
      subst hb
      split at hr
      · rename_i h1
        subst h1
        have hlt : 0 < l.length := by omega
        have hlt' : 0 < cs.length := by rw [hA.1]; exact hlt
        refine ⟨cs[0], ?_, ?_⟩
        · have := hc 0 hlt'
          rw [Nat.add_zero] at this
          simp [Instr.loadAt, Instr.sureAddr, loadVar, aggT_run hag w, this]
        · rw [List.head?_eq_getElem?, List.getElem?_eq_getElem hlt] at hr
          cases hr
          exact hA.2 0 hlt hlt'
      · cases hr

/-- A list of functions' values. -/
def tabulate (f : Nat → Value) (n : Nat) : List Value := (List.range n).map f
theorem tabulate_length (f : Nat → Value) (n : Nat) : (tabulate f n).length = n := by simp [tabulate]
theorem tabulate_get (f : Nat → Value) (n i : Nat) (h : i < (tabulate f n).length) : (tabulate f n)[i] = f i := by simp [tabulate]

theorem box_cells {st : St} (hW : WRel G M st w) {b : Nat} {cells : List AV} (hb : st.box b = some cells) :
    ∃ t cs, w.heap[b]? = some (.cells cs t (0, 0)) ∧ ARel M cells cs.toList ∧ ∀ j (h : j < cs.toList.length), w.cell? ⟨b, j, none⟩ = some cs.toList[j] := by
  obtain ⟨t, cs, h1, h2, h3⟩ := hW.box b cells hb
  refine ⟨t, cs, h1, ⟨by simpa using h2, fun i a b => by simpa using h3 i a (by simpa using b)⟩, fun j h => ?_⟩
  rw [cell_of_row w b j cs t (0, 0) h1, Array.getElem?_eq_getElem (by simpa using h)]
  simp

theorem g_load {st : Bool} {t : TypeId} {p : Operand} (hx : XRel D G M N x a w) (ho : o.op = .load t p) {po : POp} (hc : cLoad P st t p = some po) {Q : AV → Mx → Prop} {Qe : Exit → Act → World → Prop}
    (h : (nf G x.sl po).step (PCallsE P G E) x.m Q) : o.wp P a w (KPost G M x a w o Q) Qe := by
  unfold cLoad at hc
  split at hc <;> cases hc
  rename_i sz ag g hs hag hg
  have h1 := cArg_rel hx hg
  have run : ∀ v, (Instr.loadAt t (a.eval p)).run P w = .ok v w → (execOp a.eval o).run P w = .ok (.value v) w := fun v hv => by simp [execOp, ho, hv]
  simp only [nf] at h
  split at h
  · rename_i cells e
    rw [e] at h1
    obtain ⟨r, hr, hq⟩ := h
    generalize hv : a.eval p = v at h1
    cases h1 with
    | elt cells b off vs hm hd =>
      obtain ⟨u, e1, e2⟩ := load_run (P := P) (w := w) (b := b) (off := off) hs hag (l := cells.map .d) (cs := tabulate vs cells.length)
        ⟨by simp [tabulate_length], fun i a b => by simp only [List.getElem_map, tabulate_get]; exact .d _ _ (hd i (by simpa using a))⟩
        (fun j hj => by rw [tabulate_get]; exact hx.w.imm _ _ _ (hm j (by simpa [tabulate_length] using hj))) hr
      rw [hv] at run
      exact wp_value (run _ e1) hx.w e2 (.refl _ _ _) hq
  · rename_i b off e
    rw [e] at h1
    rw [inv_ptr h1] at run
    have fin : ∀ cells, x.m.st.box b = some cells → ∀ r, ldv ag sz (cells.drop off) = some r → ∃ u, (execOp a.eval o).run P w = .ok (.value u) w ∧ AVRel M r u := by
      intro cells hb r hr
      obtain ⟨t', cs, e1, e2, e3⟩ := box_cells hx.w hb
      obtain ⟨u, e4, e5⟩ := load_run (P := P) (w := w) (b := b) (off := off) hs hag (e2.drop off)
        (fun j hj => by rw [List.getElem_drop]; exact e3 _ (by simp at hj ⊢; omega)) hr
      exact ⟨u, run _ e4, e5⟩
    split at h
    · obtain ⟨cells, hb, r, hr, _, hq⟩ := h
      obtain ⟨u, e1, e2⟩ := fin cells hb r hr
      exact wp_value (m' := x.m.see b cells) e1 hx.w e2 (.refl _ _ _) hq
    · obtain ⟨cells, hb, r, hr, hq⟩ := h
      obtain ⟨u, e1, e2⟩ := fin cells hb r hr
      exact wp_value e1 hx.w e2 (.refl _ _ _) hq
  · exact h.elim

/-- A new variable in memory. -/
theorem Grows.newBox {st : St} {w' : World} {cs : Array Value} {t : TypeId} (hW : WRel G M st w) (h : Grows w w' cs t (0, 0)) {cells : List AV} (hA : ARel M cells cs.toList) :
    WRel G M (st.setBox w.heap.size cells) w' ∧ Frame st (st.setBox w.heap.size cells) M M w w' := by
  have hf := hW.fresh
  refine ⟨⟨fun b l hb => ?_, fun b l hb o => ?_, fun b l hb => ?_, fun b q hb => ?_, fun b o v hb => ?_, hW.glob⟩, ⟨h.os, h.tape, h.output, by rw [h.size]; omega, fun b hb _ _ => h.old b hb, fun _ _ _ _ _ => rfl, .refl _, fun b hb h1 h2 => ⟨?_, h2⟩⟩⟩
  · by_cases hbn : b = w.heap.size
    · subst hbn
      simp at hb; subst hb
      exact ⟨t, cs, h.new, by simpa using hA.1, fun i a b => by have := hA.2 i a (by simpa using b); rw [Array.getElem_toList] at this; exact this⟩
    · rw [St.box_fresh' cells hbn] at hb
      obtain ⟨t', cs', h1, h2, h3⟩ := hW.box b l hb
      exact ⟨t', cs', by rw [h.old b (hW.box_lt hb)]; exact h1, h2, h3⟩
  · by_cases hbn : b = w.heap.size
    · subst hbn; exact hW.M_new (Nat.le_refl _) o
    · rw [St.box_fresh' cells hbn] at hb; exact hW.boxM b l hb o
  · by_cases hbn : b = w.heap.size
    · subst hbn; exact hf.2
    · rw [St.box_fresh' cells hbn] at hb; exact hW.boxT b l hb
  · obtain ⟨h1, ⟨t', cs', h2, h3⟩, h4⟩ := hW.tok b q hb
    exact ⟨h1, ⟨t', cs', by rw [h.old b (hW.tok_lt hb)]; exact h2, h3⟩, h4⟩
  · rw [h.cell_old (hW.imm_lt hb)]; exact hW.imm b o v hb
  · rw [St.box_fresh' cells (by omega)]; exact h1

theorem g_box {t : TypeId} {p : Operand} (hx : XRel D G M N x a w) (ho : o.op = .box t p) {po : POp} (hc : cBox P t p = some po) {Q : AV → Mx → Prop} {Qe : Exit → Act → World → Prop}
    (h : (nf G x.sl po).step (PCallsE P G E) x.m Q) : o.wp P a w (KPost G M x a w o Q) Qe := by
  unfold cBox at hc
  split at hc <;> cases hc
  rename_i sz g hs hg
  have h1 := cArg_rel hx hg
  obtain ⟨h0, _, _⟩ := sizeT_some hs
  simp only [nf] at h
  obtain ⟨hl, hq⟩ := h
  have hl : (g.ev G x.sl).cells.length = sz := by simpa using hl
  have hR := cells_rel h1 (by intro e; rw [e] at hl; exact h0 hl.symm)
  obtain ⟨e1, e2⟩ := (Grows.alloc w (a.eval p).cells t).newBox hx.w hR
  refine wp_value (v := .pointer (some ⟨w.heap.size, 0, none⟩)) (m' := x.m.setSt _) (by simp [execOp, ho, Instr.box, newVar, newRow]) e1 (.d _ _ (.ptr _ _)) e2 (hq _ hx.w.fresh)

theorem g_alloc {t : TypeId} (hx : XRel D G M N x a w) (ho : o.op = .alloc t) {po : POp} (hc : cAlloc P t = some po) {Q : AV → Mx → Prop} {Qe : Exit → Act → World → Prop}
    (h : (nf G x.sl po).step (PCallsE P G E) x.m Q) : o.wp P a w (KPost G M x a w o Q) Qe := by
  unfold cAlloc at hc
  split at hc <;> (try (cases hc; done))
  rename_i z hz
  simp only [Option.map_eq_some_iff] at hc
  obtain ⟨zs, hzs, rfl⟩ := hc
  cases hi : P.info? t with
  | none => simp [hi] at hz
  | some i =>
    simp only [hi, Option.bind_some] at hz
    simp only [nf] at h
    obtain ⟨_, hq⟩ := h
    obtain ⟨e1, e2⟩ := (Grows.alloc w z.cells t).newBox hx.w (cCells_rel hzs)
    exact wp_value (v := .pointer (some ⟨w.heap.size, 0, none⟩)) (m' := x.m.setSt _) (by simp [execOp, ho, Instr.alloc, newVar, newRow, zeroValue, typeInfo, hi, hz]) e1 (.d _ _ (.ptr _ _)) e2 (hq _ hx.w.fresh)

theorem flatten_replicate_get {α : Type} (l : List α) (hl : l ≠ []) : ∀ (n i : Nat), i < n * l.length → (List.replicate n l).flatten[i]? = l[i % l.length]?
  | 0, i, h => by simp at h
  | n + 1, i, h => by
    have hpos : 0 < l.length := List.length_pos_iff.2 hl
    rw [List.replicate_succ, List.flatten_cons]
    by_cases hi : i < l.length
    · rw [List.getElem?_append_left hi, Nat.mod_eq_of_lt hi]
    · rw [List.getElem?_append_right (by omega), flatten_replicate_get l hl n (i - l.length) (by rw [Nat.add_mul, Nat.one_mul] at h; omega)]
      congr 1
      exact (Nat.mod_eq_sub_mod (by omega)).symm

theorem g_make {t : TypeId} {p q : Operand} (hx : XRel D G M N x a w) (ho : o.op = .makeSlice t p q) {po : POp} (hc : cMake P t p q = some po) {Q : AV → Mx → Prop} {Qe : Exit → Act → World → Prop}
    (h : (nf G x.sl po).step (PCallsE P G E) x.m Q) : o.wp P a w (KPost G M x a w o Q) Qe := by
  unfold cMake at hc
  split at hc <;> (try (cases hc; done))
  rename_i e hu
  split at hc <;> (try (cases hc; done))
  rename_i ie sz gl gc hie hs hgl hgc
  split at hc <;> (try (cases hc; done))
  rename_i z hz
  split at hc <;> (try (cases hc; done))
  rename_i zs hzs
  split at hc <;> cases hc
  rename_i hcond
  obtain ⟨hzl, hby⟩ := hcond
  obtain ⟨h0, ⟨i', hi1, hi2⟩, hsz⟩ := sizeT_some hs
  rw [hie] at hi1; cases hi1
  have h1 := cArg_rel hx hgl
  have h2 := cArg_rel hx hgc
  simp only [nf] at h
  split at h <;> (try (exact h.elim))
  rename_i l c el ec
  rw [el] at h1
  rw [ec] at h2
  obtain ⟨hb, hq⟩ := h
  simp only [decide_eq_true_eq] at hb
  obtain ⟨hl0, hlc, hcb⟩ := hb
  have hZ := cCells_rel (M := M) hzs
  have hzsz : z.cells.size = sz := by rw [← Array.length_toList, hZ.1, hzl]
  have hcn : c ≤ 281474976710656 := by
    have : c * 1 ≤ c * ie.bytes := Int.mul_le_mul_of_nonneg_left (by omega) (by omega)
    omega
  have w1 : IntKind.i64.wrap l = l := IntWalk.i64_in _ (by omega)
  have w2 : IntKind.i64.wrap c = c := IntWalk.i64_in _ (by omega)
  obtain ⟨L, rfl⟩ := Int.eq_ofNat_of_zero_le hl0
  obtain ⟨C, rfl⟩ := Int.eq_ofNat_of_zero_le (Int.le_trans hl0 hlc)
  let cs : Array Value := (Array.range (C * sz)).map (z.cells[· % z.cells.size]!)
  have hA : ARel M (List.replicate C zs).flatten cs.toList := by
    refine ⟨by simp [cs, hzl], fun i h1 h2 => ?_⟩
    have hi : i < C * sz := by simpa [cs] using h2
    have hne : zs ≠ [] := by intro e; rw [e] at hzl; exact h0 hzl.symm
    have hpos : 0 < sz := Nat.pos_of_ne_zero h0
    have hmod : i % sz < sz := Nat.mod_lt _ hpos
    have e1 : (List.replicate C zs).flatten[i]? = zs[i % sz]? := by rw [flatten_replicate_get zs hne C i (by rw [hzl]; exact hi), hzl]
    have e2 : (List.replicate C zs).flatten[i] = zs[i % sz]'(by omega) := by
      rw [List.getElem?_eq_getElem h1, List.getElem?_eq_getElem (by omega)] at e1
      exact Option.some.inj e1
    have e3 : cs.toList[i] = z.cells.toList[i % sz]'(by simp; omega) := by
      have : i % sz < z.cells.size := by omega
      simp only [cs, Array.getElem_toList, Array.getElem_map, Array.getElem_range, hzsz]
      exact getElem!_pos z.cells (i % sz) this
    rw [e2, e3]
    exact hZ.2 _ _ _
  obtain ⟨e1, e2⟩ := (Grows.alloc w cs e).newBox hx.w hA
  have hL : ((L : Int)).toNat = L := Int.toNat_natCast _
  have hC : ((C : Int)).toNat = C := Int.toNat_natCast _
  rw [hL, hC] at hq
  refine wp_value (v := .slice (some ⟨w.heap.size, 0, none⟩) L C) (m' := x.m.setSt _) ?_ e1 (.bsl _ _ _ _ (by omega)) e2 (hq _ hx.w.fresh)
  have hmul : (ie.bytes : Int) * C = C * ie.bytes := Int.mul_comm _ _
  have hn1 : ¬ (281474976710656 < (ie.bytes : Int) * C) := by omega
  have hn2 : ¬ ((C : Int) < 0) := by omega
  have hn3 : ¬ ((L : Int) < 0) := by omega
  have hn4 : ¬ (C < L) := by omega
  by_cases hn0 : C * sz = 0
  · have hcs : cs = #[] := Array.eq_empty_of_size_eq_zero (by simp [cs, hn0])
    have hr : (Array.range 0).map (fun _ => (default : Value)) = #[] := Array.eq_empty_of_size_eq_zero (by simp)
    rw [hcs]
    simp [execOp, ho, inv_int h1, inv_int h2, Instr.makeSlice, run_underlying hu, asInt, asIntOf, typeInfo, hie, w1, w2, hn1, hn2, hn3, hn4, hsz, newRow, hn0]
    rw [hr]
  · simp [execOp, ho, inv_int h1, inv_int h2, Instr.makeSlice, run_underlying hu, asInt, asIntOf, typeInfo, hie, w1, w2, hn1, hn2, hn3, hn4, hsz, newRow, hn0, zeroValue, hz]
    rfl

theorem setRow_other' (w : World) (g k : Nat) (cs : Array Value) (h : k ≠ g) : (w.setRow g cs).heap[k]? = w.heap[k]? := setRow_other w g k cs h

theorem ARel.splice {l cs : List AV} {k vs : List Value} (hl : ARel M l k) (hc : ARel M cs vs) (o n : Nat) (hn : vs.length = n) : ARel M (l.take o ++ cs ++ l.drop (o + n)) (k.take o ++ vs ++ k.drop (o + vs.length)) := by
  rw [hn]
  exact ((hl.take o).append hc).append (hl.drop (o + n))

/-- A variable in memory, written. -/
theorem WRel.writeBox {st : St} (hW : WRel G M st w) {b : Nat} {cells cells' : List AV} (hb : st.box b = some cells) {t : TypeId} {cs cs' : Array Value} (hg : w.heap[b]? = some (.cells cs t (0, 0)))
    (hA : ARel M cells' cs'.toList) : WRel G M (st.setBox b cells') (w.setRow b cs') ∧ Frame st (st.setBox b cells') M M w (w.setRow b cs') := by
  have hne : ∀ c, c ≠ b → (w.setRow b cs').heap[c]? = w.heap[c]? := fun c hc => setRow_other w b c cs' hc
  have hcell : ∀ c o, c ≠ b → (w.setRow b cs').cell? ⟨c, o, none⟩ = w.cell? ⟨c, o, none⟩ := fun c o hc => World.cell?_of_block (hne c hc)
  refine ⟨⟨fun c l hc => ?_, fun c l hc o => ?_, fun c l hc => ?_, fun c q hc => ?_, fun c o v hc => ?_, hW.glob⟩, ⟨rfl, rfl, rfl, by simp, fun c hc h1 _ => ?_, fun _ _ _ _ _ => rfl, .refl _, fun c _ h1 h2 => ⟨?_, h2⟩⟩⟩
  · by_cases hcb : c = b
    · subst hcb
      simp at hc; subst hc
      exact ⟨t, cs', setRow_heap w c cs cs' t _ hg, by simpa using hA.1, fun i a b => by have := hA.2 i a (by simpa using b); rw [Array.getElem_toList] at this; exact this⟩
    · rw [St.box_fresh' cells' hcb] at hc
      rw [hne c hcb]; exact hW.box c l hc
  · by_cases hcb : c = b
    · subst hcb; exact hW.boxM c cells hb o
    · rw [St.box_fresh' cells' hcb] at hc; exact hW.boxM c l hc o
  · by_cases hcb : c = b
    · subst hcb; exact hW.boxT c cells hb
    · rw [St.box_fresh' cells' hcb] at hc; exact hW.boxT c l hc
  · have hcb : c ≠ b := by intro e; subst e; have := hW.boxT c cells hb; simp at hc; rw [this] at hc; cases hc
    rw [hne c hcb]; exact hW.tok c q hc
  · have hcb : c ≠ b := by intro e; subst e; rw [hW.boxM c cells hb o] at hc; cases hc
    rw [hcell c o hcb]; exact hW.imm c o v hc
  · have hcb : c ≠ b := by intro e; subst e; rw [hb] at h1; cases h1
    exact hne c hcb
  · have hcb : c ≠ b := by intro e; subst e; rw [hb] at h1; cases h1
    rw [St.box_fresh' cells' hcb]; exact h1

theorem sc_list {cs : List AV} {vs : List Value} (h : cs.all AV.sc = true) (hA : ARel M cs vs) : ∀ v ∈ vs, v.oneCell' = true := by
  intro v hv
  obtain ⟨i, hi, rfl⟩ := List.getElem_of_mem hv
  have hi' : i < cs.length := by rw [← hA.1]; exact hi
  exact oneCell_of_sc (List.all_eq_true.1 h _ (List.getElem_mem hi')) (hA.2 i hi' hi)

theorem g_store {t : TypeId} {p q : Operand} (hx : XRel D G M N x a w) (ho : o.op = .store t p q) {po : POp} (hc : cStore P t p q = some po) {Q : AV → Mx → Prop} {Qe : Exit → Act → World → Prop}
    (h : (nf G x.sl po).step (PCallsE P G E) x.m Q) : o.wp P a w (KPost G M x a w o Q) Qe := by
  unfold cStore at hc
  split at hc <;> cases hc
  rename_i sz g gv hs hg hgv
  have h1 := cArg_rel hx hg
  have h2 := cArg_rel hx hgv
  obtain ⟨h0, _, hsz⟩ := sizeT_some hs
  simp only [nf] at h
  split at h <;> (try (exact h.elim))
  rename_i b off e
  rw [e] at h1
  obtain ⟨cells, hb, ⟨hl, hsc⟩, hfit, hold, hq⟩ := h
  obtain ⟨t', cs, hg1, hA, _⟩ := box_cells hx.w hb
  have hR := cells_rel h2 (by intro e; rw [e] at hl; exact h0 hl.symm)
  have hvs : (a.eval q).cells.toList.length = sz := by rw [hR.1, hl]
  have hst := run_storeCells_at P b off t' (a.eval q).cells.toList 0 cs w hg1 (by have := hA.1; simp at this hvs ⊢; omega) (sc_list hsc hR)
  rw [Nat.add_zero] at hst
  obtain ⟨e1, e2⟩ := hx.w.writeBox (cells' := cells.take off ++ (gv.ev G x.sl).cells ++ cells.drop (off + sz))
    (cs' := (cs.toList.take off ++ (a.eval q).cells.toList ++ cs.toList.drop (off + (a.eval q).cells.toList.length)).toArray) hb hg1 (by simpa using hA.splice hR off sz hvs)
  have hsize : (a.eval q).cells.size = sz := by simpa using hvs
  exact wp_skipped (m' := x.m.past _) (by simp [execOp, ho, inv_ptr h1, Instr.storeAt, Instr.sureAddr, storeVar, hsz, hsize, hst]) e1 e2 hq

end
end Go.Pv
