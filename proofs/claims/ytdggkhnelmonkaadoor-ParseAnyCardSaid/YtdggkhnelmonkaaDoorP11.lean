/- Operations that read, make and write variables in memory. No condition. -/
import Derived.Test.YtdggkhnelmonkaaDoorP8
import Derived.Deep.MidRow
import Derived.MapKept
import Derived.Carry
namespace Go.Pv

section
variable {D : Fr} {E : PE} {P : Program} {G : Glob} {M : Mem} {N : Nat} {x : X} {a : Act} {w : World} {o : Oper}

/-- What an operation leaves, its value told apart. -/
def KPost (G : Glob) (M : Mem) (x : X) (a : Act) (w : World) (o : Oper) (Q : AV → Mx → Prop) (a' : Act) (w' : World) : Prop :=
  ∃ v r m' M', a' = a.put o.dst v ∧ WRel G M' m'.st w' ∧ AVRel M' r v ∧ Frame x.m.st m'.st M M' w w' ∧ Q r m'

theorem wp_value {Q : AV → Mx → Prop} {Qe : Exit → Act → World → Prop} {v : Value} {w' : World} (hr : (execOp a.eval o).run P w = .ok (.value v) w') {r : AV} {m' : Mx} {M' : Mem}
    (h1 : WRel G M' m'.st w') (h2 : AVRel M' r v) (h3 : Frame x.m.st m'.st M M' w w') (h4 : Q r m') : o.wp P a w (KPost G M x a w o Q) Qe := by
  unfold Oper.wp
  rw [hr, Oper.upon_value]
  exact ⟨v, r, m', M', rfl, h1, h2, h3, h4⟩
theorem wp_skipped {Q : AV → Mx → Prop} {Qe : Exit → Act → World → Prop} {w' : World} (hr : (execOp a.eval o).run P w = .ok .skip w') {m' : Mx} {M' : Mem}
    (h1 : WRel G M' m'.st w') (h3 : Frame x.m.st m'.st M M' w w') (h4 : Q .undef m') : o.wp P a w (KPost G M x a w o Q) Qe := by
  unfold Oper.wp
  rw [hr, Oper.upon_skip]
  exact ⟨undef, .undef, m', M', rfl, h1, .undef _, h3, h4⟩
theorem Gives.wp {Q : AV → Mx → Prop} {Qe : Exit → Act → World → Prop} {r : AV} (h : Gives P G M x.m.st a w o r) (hq : Q r x.m) : o.wp P a w (KPost G M x a w o Q) Qe := by
  obtain ⟨v, w', M', h1, h2, h3, h4⟩ := h
  exact wp_value h1 h3 h2 h4 hq

theorem aggT_row {t : TypeId} (h : aggT P t = some true) : ∃ d, P.underlying t = some d ∧ d.isRow = true := by
  unfold aggT at h
  split at h
  · rename_i hu; exact ⟨_, hu, rfl⟩
  · rename_i hu; exact ⟨_, hu, rfl⟩
  · cases h
  · cases h

theorem load_run {t : TypeId} {sz : Nat} {ag : Bool} (hs : sizeT P t = some sz) (hag : aggT P t = some ag) {b off : Nat} {l : List AV} {cs : List Value} (hA : ARel M l cs)
    (hc : ∀ j (h : j < cs.length), w.cell? ⟨b, off + j, none⟩ = some cs[j]) {r : AV} (hr : ldv ag sz l = some r) :
    ∃ v, (Instr.loadAt t (.pointer (some ⟨b, off, none⟩))).run P w = .ok v w ∧ AVRel M r v := by
  unfold ldv at hr
  split at hr
  · cases hr
  · rename_i hl
    obtain ⟨h0, ⟨i, hi1, hi2⟩, hsz⟩ := sizeT_some hs
    split at hr
    · rename_i hb
      cases hr
      subst hb
      obtain ⟨d, hu, hd⟩ := aggT_row hag
      have hA' := hA.take sz
      refine ⟨.agg (cs.take sz).toArray, ?_, .agg _ _ hA'.1 hA'.2⟩
      refine run_loadAt_mid w b off t (cs.take sz) d (fun j v hj => ?_) hu hd ?_
      · obtain ⟨hlt, rfl⟩ := List.getElem?_eq_some_iff.1 hj
        rw [List.getElem_take]
        exact hc j (by simp at hlt; omega)
      · have := hA.1
        simp [hi1, hi2]; omega
    · rename_i hb
      have hb : ag = false := by simpa using hb
      subst hb
      split at hr
      · rename_i h1
        subst h1
        have hlt : 0 < l.length := by omega
        have hlt' : 0 < cs.length := by rw [hA.1]; exact hlt
        refine ⟨cs[0], ?_, ?_⟩
        · have := hc 0 hlt'
          rw [Nat.add_zero] at this
          simp [Instr.loadAt, Instr.sureAddr, loadVar, aggT_run hag w, this]
        · rw [List.head?_eq_getElem?, List.getElem?_eq_getElem hlt] at hr
          cases hr
          exact hA.2 0 hlt hlt'
      · cases hr

/-- A list of functions' values. -/
def tabulate (f : Nat → Value) (n : Nat) : List Value := (List.range n).map f
theorem tabulate_length (f : Nat → Value) (n : Nat) : (tabulate f n).length = n := by simp [tabulate]
theorem tabulate_get (f : Nat → Value) (n i : Nat) (h : i < (tabulate f n).length) : (tabulate f n)[i] = f i := by simp [tabulate]

theorem box_cells {st : St} (hW : WRel G M st w) {b : Nat} {cells : List AV} (hb : st.box b = some cells) :
    ∃ t cs, w.heap[b]? = some (.cells cs t (0, 0)) ∧ ARel M cells cs.toList ∧ ∀ j (h : j < cs.toList.length), w.cell? ⟨b, j, none⟩ = some cs.toList[j] := by
  obtain ⟨t, cs, h1, h2, h3⟩ := hW.box b cells hb
  refine ⟨t, cs, h1, ⟨by simpa using h2, fun i a b => by simpa using h3 i a (by simpa using b)⟩, fun j h => ?_⟩
  rw [cell_of_row w b j cs t (0, 0) h1, Array.getElem?_eq_getElem (by simpa using h)]
  simp

theorem g_load {st : Bool} {t : TypeId} {p : Operand} (hx : XRel D G M N x a w) (ho : o.op = .load t p) {po : POp} (hc : cLoad P st t p = some po) {Q : AV → Mx → Prop} {Qe : Exit → Act → World → Prop}
    (h : (nf G x.sl po).step (PCallsE P G E) x.m Q) : o.wp P a w (KPost G M x a w o Q) Qe := by
  unfold cLoad at hc
  split at hc <;> cases hc
  rename_i sz ag g hs hag hg
  have h1 := cArg_rel hx hg
  have run : ∀ v, (Instr.loadAt t (a.eval p)).run P w = .ok v w → (execOp a.eval o).run P w = .ok (.value v) w := fun v hv => by simp [execOp, ho, hv]
  simp only [nf] at h
  split at h
  · rename_i cells e
    rw [e] at h1
    obtain ⟨r, hr, hq⟩ := h
    generalize hv : a.eval p = v at h1
    cases h1 with
    | elt cells b off vs hm hd =>
      obtain ⟨u, e1, e2⟩ := load_run (P := P) (w := w) (b := b) (off := off) hs hag (l := cells.map .d) (cs := tabulate vs cells.length)
        ⟨by simp [tabulate_length], fun i a b => by simp only [List.getElem_map, tabulate_get]; exact .d _ _ (hd i (by simpa using a))⟩
        (fun j hj => by rw [tabulate_get]; exact hx.w.imm _ _ _ (hm j (by simpa [tabulate_length] using hj))) hr
      rw [hv] at run
      exact wp_value (run _ e1) hx.w e2 (.refl _ _ _) hq
  · rename_i b off e
    rw [e] at h1
    rw [inv_ptr h1] at run
    have fin : ∀ cells, x.m.st.box b = some cells → ∀ r, ldv ag sz (cells.drop off) = some r → ∃ u, (execOp a.eval o).run P w = .ok (.value u) w ∧ AVRel M r u := by
      intro cells hb r hr
      obtain ⟨t', cs, e1, e2, e3⟩ := box_cells hx.w hb
      obtain ⟨u, e4, e5⟩ := load_run (P := P) (w := w) (b := b) (off := off) hs hag (e2.drop off)
        (fun j hj => by rw [List.getElem_drop]; exact e3 _ (by simp at hj ⊢; omega)) hr
      exact ⟨u, run _ e4, e5⟩
    split at h
    · obtain ⟨cells, hb, r, hr, _, hq⟩ := h
      obtain ⟨u, e1, e2⟩ := fin cells hb r hr
      exact wp_value (m' := x.m.see b cells) e1 hx.w e2 (.refl _ _ _) hq
    · obtain ⟨cells, hb, r, hr, hq⟩ := h
      obtain ⟨u, e1, e2⟩ := fin cells hb r hr
      exact wp_value e1 hx.w e2 (.refl _ _ _) hq
  · exact h.elim

/-- A new variable in memory. -/
theorem Grows.newBox {st : St} {w' : World} {cs : Array Value} {t : TypeId} (hW : WRel G M st w) (h : Grows w w' cs t (0, 0)) {cells : List AV} (hA : ARel M cells cs.toList) :
    WRel G M (st.setBox w.heap.size cells) w' ∧ Frame st (st.setBox w.heap.size cells) M M w w' := by
  have hf := hW.fresh
  refine ⟨⟨fun b l hb => ?_, fun b l hb o => ?_, fun b l hb => ?_, fun b q hb => ?_, fun b o v hb => ?_, hW.glob⟩, ⟨h.os, h.tape, h.output, by rw [h.size]; omega, fun b hb _ _ => h.old b hb, fun _ _ _ _ _ => rfl, .refl _, fun b hb h1 h2 => ⟨?_, h2⟩⟩⟩
  · by_cases hbn : b = w.heap.size
    · subst hbn
      simp at hb; subst hb
      exact ⟨t, cs, h.new, by simpa using hA.1, fun i a b => by have := hA.2 i a (by simpa using b); rw [Array.getElem_toList] at this; exact this⟩
    · rw [St.box_fresh' cells hbn] at hb
      obtain ⟨t', cs', h1, h2, h3⟩ := hW.box b l hb
      exact ⟨t', cs', by rw [h.old b (hW.box_lt hb)]; exact h1, h2, h3⟩
  · by_cases hbn : b = w.heap.size
    · subst hbn; exact hW.M_new (Nat.le_refl _) o
    · rw [St.box_fresh' cells hbn] at hb; exact hW.boxM b l hb o
  · by_cases hbn : b = w.heap.size
    · subst hbn; exact hf.2
    · rw [St.box_fresh' cells hbn] at hb; exact hW.boxT b l hb
  · exact (hW.tok b q hb).of (h.old b (hW.tok_lt hb)) (fun _ ho => ho) (.refl _)
  · rw [h.cell_old (hW.imm_lt hb)]; exact hW.imm b o v hb
  · rw [St.box_fresh' cells (by omega)]; exact h1

theorem g_box {t : TypeId} {p : Operand} (hx : XRel D G M N x a w) (ho : o.op = .box t p) {po : POp} (hc : cBox P t p = some po) {Q : AV → Mx → Prop} {Qe : Exit → Act → World → Prop}
    (h : (nf G x.sl po).step (PCallsE P G E) x.m Q) : o.wp P a w (KPost G M x a w o Q) Qe := by
  unfold cBox at hc
  split at hc <;> cases hc
  rename_i sz g hs hg
  have h1 := cArg_rel hx hg
  obtain ⟨h0, _, _⟩ := sizeT_some hs
  simp only [nf] at h
  obtain ⟨hl, hq⟩ := h
  have hl : (g.ev G x.sl).cells.length = sz := by simpa using hl
  have hR := cells_rel h1 (by intro e; rw [e] at hl; exact h0 hl.symm)
  obtain ⟨e1, e2⟩ := (Grows.alloc w (a.eval p).cells t).newBox hx.w hR
  refine wp_value (v := .pointer (some ⟨w.heap.size, 0, none⟩)) (m' := x.m.setSt _) (by simp [execOp, ho, Instr.box, newVar, newRow]) e1 (.d _ _ (.ptr _ _)) e2 (hq _ hx.w.fresh)

theorem g_alloc {t : TypeId} (hx : XRel D G M N x a w) (ho : o.op = .alloc t) {po : POp} (hc : cAlloc P t = some po) {Q : AV → Mx → Prop} {Qe : Exit → Act → World → Prop}
    (h : (nf G x.sl po).step (PCallsE P G E) x.m Q) : o.wp P a w (KPost G M x a w o Q) Qe := by
  unfold cAlloc at hc
  split at hc <;> (try (cases hc; done))
  rename_i z hz
  simp only [Option.map_eq_some_iff] at hc
  obtain ⟨zs, hzs, rfl⟩ := hc
  cases hi : P.info? t with
  | none => simp [hi] at hz
  | some i =>
    simp only [hi, Option.bind_some] at hz
    simp only [nf] at h
    obtain ⟨_, hq⟩ := h
    obtain ⟨e1, e2⟩ := (Grows.alloc w z.cells t).newBox hx.w (cCells_rel hzs)
    exact wp_value (v := .pointer (some ⟨w.heap.size, 0, none⟩)) (m' := x.m.setSt _) (by simp [execOp, ho, Instr.alloc, newVar, newRow, zeroValue, typeInfo, hi, hz]) e1 (.d _ _ (.ptr _ _)) e2 (hq _ hx.w.fresh)

theorem flatten_replicate_get {α : Type} (l : List α) (hl : l ≠ []) : ∀ (n i : Nat), i < n * l.length → (List.replicate n l).flatten[i]? = l[i % l.length]?
  | 0, i, h => by simp at h
  | n + 1, i, h => by
    have hpos : 0 < l.length := List.length_pos_iff.2 hl
    rw [List.replicate_succ, List.flatten_cons]
    by_cases hi : i < l.length
    · rw [List.getElem?_append_left hi, Nat.mod_eq_of_lt hi]
    · rw [List.getElem?_append_right (by omega), flatten_replicate_get l hl n (i - l.length) (by rw [Nat.add_mul, Nat.one_mul] at h; omega)]
      congr 1
      exact (Nat.mod_eq_sub_mod (by omega)).symm

theorem g_make {t : TypeId} {p q : Operand} (hx : XRel D G M N x a w) (ho : o.op = .makeSlice t p q) {po : POp} (hc : cMake P t p q = some po) {Q : AV → Mx → Prop} {Qe : Exit → Act → World → Prop}
    (h : (nf G x.sl po).step (PCallsE P G E) x.m Q) : o.wp P a w (KPost G M x a w o Q) Qe := by
  unfold cMake at hc
  split at hc <;> (try (cases hc; done))
  rename_i e hu
  split at hc <;> (try (cases hc; done))
  rename_i ie sz gl gc hie hs hgl hgc
  split at hc <;> (try (cases hc; done))
  rename_i z hz
  split at hc <;> (try (cases hc; done))
  rename_i zs hzs
  split at hc <;> cases hc
  rename_i hcond
  obtain ⟨hzl, hby⟩ := hcond
  obtain ⟨h0, ⟨i', hi1, hi2⟩, hsz⟩ := sizeT_some hs
  rw [hie] at hi1; cases hi1
  have h1 := cArg_rel hx hgl
  have h2 := cArg_rel hx hgc
  simp only [nf] at h
  split at h <;> (try (exact h.elim))
  rename_i l c el ec
  rw [el] at h1
  rw [ec] at h2
  obtain ⟨hb, hq⟩ := h
  simp only [decide_eq_true_eq] at hb
  obtain ⟨hl0, hlc, hcb⟩ := hb
  have hZ := cCells_rel (M := M) hzs
  have hzsz : z.cells.size = sz := by rw [← Array.length_toList, hZ.1, hzl]
  have hcn : c ≤ 281474976710656 := by
    have : c * 1 ≤ c * ie.bytes := Int.mul_le_mul_of_nonneg_left (by omega) (by omega)
    omega
  have w1 : IntKind.i64.wrap l = l := IntWalk.i64_in _ (by omega)
  have w2 : IntKind.i64.wrap c = c := IntWalk.i64_in _ (by omega)
  obtain ⟨L, rfl⟩ := Int.eq_ofNat_of_zero_le hl0
  obtain ⟨C, rfl⟩ := Int.eq_ofNat_of_zero_le (Int.le_trans hl0 hlc)
  let cs : Array Value := (Array.range (C * sz)).map (z.cells[· % z.cells.size]!)
  have hA : ARel M (List.replicate C zs).flatten cs.toList := by
    refine ⟨by simp [cs, hzl], fun i h1 h2 => ?_⟩
    have hi : i < C * sz := by simpa [cs] using h2
    have hne : zs ≠ [] := by intro e; rw [e] at hzl; exact h0 hzl.symm
    have hpos : 0 < sz := Nat.pos_of_ne_zero h0
    have hmod : i % sz < sz := Nat.mod_lt _ hpos
    have e1 : (List.replicate C zs).flatten[i]? = zs[i % sz]? := by rw [flatten_replicate_get zs hne C i (by rw [hzl]; exact hi), hzl]
    have e2 : (List.replicate C zs).flatten[i] = zs[i % sz]'(by omega) := by
      rw [List.getElem?_eq_getElem h1, List.getElem?_eq_getElem (by omega)] at e1
      exact Option.some.inj e1
    have e3 : cs.toList[i] = z.cells.toList[i % sz]'(by simp; omega) := by
      have : i % sz < z.cells.size := by omega
      simp only [cs, Array.getElem_toList, Array.getElem_map, Array.getElem_range, hzsz]
      exact getElem!_pos z.cells (i % sz) this
    rw [e2, e3]
    exact hZ.2 _ _ _
  obtain ⟨e1, e2⟩ := (Grows.alloc w cs e).newBox hx.w hA
  have hL : ((L : Int)).toNat = L := Int.toNat_natCast _
  have hC : ((C : Int)).toNat = C := Int.toNat_natCast _
  rw [hL, hC] at hq
  refine wp_value (v := .slice (some ⟨w.heap.size, 0, none⟩) L C) (m' := x.m.setSt _) ?_ e1 (.bsl _ _ _ _ (by omega)) e2 (hq _ hx.w.fresh)
  have hmul : (ie.bytes : Int) * C = C * ie.bytes := Int.mul_comm _ _
  have hn1 : ¬ (281474976710656 < (ie.bytes : Int) * C) := by omega
  have hn2 : ¬ ((C : Int) < 0) := by omega
  have hn3 : ¬ ((L : Int) < 0) := by omega
  have hn4 : ¬ (C < L) := by omega
  by_cases hn0 : C * sz = 0
  · have hcs : cs = #[] := Array.eq_empty_of_size_eq_zero (by simp [cs, hn0])
    have hr : (Array.range 0).map (fun _ => (default : Value)) = #[] := Array.eq_empty_of_size_eq_zero (by simp)
    rw [hcs]
    simp [execOp, ho, inv_int h1, inv_int h2, Instr.makeSlice, run_underlying hu, asInt, asIntOf, typeInfo, hie, w1, w2, hn1, hn2, hn3, hn4, hsz, newRow, hn0]
    rw [hr]
  · simp [execOp, ho, inv_int h1, inv_int h2, Instr.makeSlice, run_underlying hu, asInt, asIntOf, typeInfo, hie, w1, w2, hn1, hn2, hn3, hn4, hsz, newRow, hn0, zeroValue, hz]
    rfl

theorem setRow_other' (w : World) (g k : Nat) (cs : Array Value) (h : k ≠ g) : (w.setRow g cs).heap[k]? = w.heap[k]? := setRow_other w g k cs h

theorem ARel.splice {l cs : List AV} {k vs : List Value} (hl : ARel M l k) (hc : ARel M cs vs) (o n : Nat) (hn : vs.length = n) : ARel M (l.take o ++ cs ++ l.drop (o + n)) (k.take o ++ vs ++ k.drop (o + vs.length)) := by
  rw [hn]
  exact ((hl.take o).append hc).append (hl.drop (o + n))

/-- A variable in memory, written. -/
theorem WRel.writeBox {st : St} (hW : WRel G M st w) {b : Nat} {cells cells' : List AV} (hb : st.box b = some cells) {t : TypeId} {cs cs' : Array Value} (hg : w.heap[b]? = some (.cells cs t (0, 0)))
    (hA : ARel M cells' cs'.toList) : WRel G M (st.setBox b cells') (w.setRow b cs') ∧ Frame st (st.setBox b cells') M M w (w.setRow b cs') := by
  have hne : ∀ c, c ≠ b → (w.setRow b cs').heap[c]? = w.heap[c]? := fun c hc => setRow_other w b c cs' hc
  have hcell : ∀ c o, c ≠ b → (w.setRow b cs').cell? ⟨c, o, none⟩ = w.cell? ⟨c, o, none⟩ := fun c o hc => World.cell?_of_block (hne c hc)
  refine ⟨⟨fun c l hc => ?_, fun c l hc o => ?_, fun c l hc => ?_, fun c q hc => ?_, fun c o v hc => ?_, hW.glob⟩, ⟨rfl, rfl, rfl, by simp, fun c hc h1 _ => ?_, fun _ _ _ _ _ => rfl, .refl _, fun c _ h1 h2 => ⟨?_, h2⟩⟩⟩
  · by_cases hcb : c = b
    · subst hcb
      simp at hc; subst hc
      exact ⟨t, cs', setRow_heap w c cs cs' t _ hg, by simpa using hA.1, fun i a b => by have := hA.2 i a (by simpa using b); rw [Array.getElem_toList] at this; exact this⟩
    · rw [St.box_fresh' cells' hcb] at hc
      rw [hne c hcb]; exact hW.box c l hc
  · by_cases hcb : c = b
    · subst hcb; exact hW.boxM c cells hb o
    · rw [St.box_fresh' cells' hcb] at hc; exact hW.boxM c l hc o
  · by_cases hcb : c = b
    · subst hcb; exact hW.boxT c cells hb
    · rw [St.box_fresh' cells' hcb] at hc; exact hW.boxT c l hc
  · have hcb : c ≠ b := by intro e; subst e; have := hW.boxT c cells hb; simp at hc; rw [this] at hc; cases hc
    rw [hne c hcb]; exact hW.tok c q hc
  · have hcb : c ≠ b := by intro e; subst e; rw [hW.boxM c cells hb o] at hc; cases hc
    rw [hcell c o hcb]; exact hW.imm c o v hc
  · have hcb : c ≠ b := by intro e; subst e; rw [hb] at h1; cases h1
    exact hne c hcb
  · have hcb : c ≠ b := by intro e; subst e; rw [hb] at h1; cases h1
    rw [St.box_fresh' cells' hcb]; exact h1

theorem sc_list {cs : List AV} {vs : List Value} (h : cs.all AV.sc = true) (hA : ARel M cs vs) : ∀ v ∈ vs, v.oneCell' = true := by
  intro v hv
  obtain ⟨i, hi, rfl⟩ := List.getElem_of_mem hv
  have hi' : i < cs.length := by rw [← hA.1]; exact hi
  exact oneCell_of_sc (List.all_eq_true.1 h _ (List.getElem_mem hi')) (hA.2 i hi' hi)

theorem g_store {t : TypeId} {p q : Operand} (hx : XRel D G M N x a w) (ho : o.op = .store t p q) {po : POp} (hc : cStore P t p q = some po) {Q : AV → Mx → Prop} {Qe : Exit → Act → World → Prop}
    (h : (nf G x.sl po).step (PCallsE P G E) x.m Q) : o.wp P a w (KPost G M x a w o Q) Qe := by
  unfold cStore at hc
  split at hc <;> cases hc
  rename_i sz g gv hs hg hgv
  have h1 := cArg_rel hx hg
  have h2 := cArg_rel hx hgv
  obtain ⟨h0, _, hsz⟩ := sizeT_some hs
  simp only [nf] at h
  split at h <;> (try (exact h.elim))
  rename_i b off e
  rw [e] at h1
  obtain ⟨cells, hb, ⟨hl, hsc⟩, hfit, hold, hq⟩ := h
  obtain ⟨t', cs, hg1, hA, _⟩ := box_cells hx.w hb
  have hR := cells_rel h2 (by intro e; rw [e] at hl; exact h0 hl.symm)
  have hvs : (a.eval q).cells.toList.length = sz := by rw [hR.1, hl]
  have hst := run_storeCells_at P b off t' (a.eval q).cells.toList 0 cs w hg1 (by have := hA.1; simp at this hvs ⊢; omega) (sc_list hsc hR)
  rw [Nat.add_zero] at hst
  obtain ⟨e1, e2⟩ := hx.w.writeBox (cells' := cells.take off ++ (gv.ev G x.sl).cells ++ cells.drop (off + sz))
    (cs' := (cs.toList.take off ++ (a.eval q).cells.toList ++ cs.toList.drop (off + (a.eval q).cells.toList.length)).toArray) hb hg1 (by simpa using hA.splice hR off sz hvs)
  have hsize : (a.eval q).cells.size = sz := by simpa using hvs
  exact wp_skipped (m' := x.m.past _) (by simp [execOp, ho, inv_ptr h1, Instr.storeAt, Instr.sureAddr, storeVar, hsz, hsize, hst]) e1 e2 hq

end
end Go.Pv
/- append. No condition. -/
namespace Go.Pv

section
variable {D : Fr} {E : PE} {P : Program} {G : Glob} {M : Mem} {N : Nat} {x : X} {a : Act} {w : World} {o : Oper}

/-- What is appended: so many, these cells. -/
structure Src (P : Program) (w : World) (size : Nat) (v : Value) (n : Nat) (cs : List Value) : Prop where
  len : ∀ w', (Builtin.lenOf v).run P w' = .ok n w'
  cells : ∀ w', w'.heap = w.heap → (Builtin.firstCells size n v).run P w' = .ok cs.toArray w'
  size : cs.length = n * size

/-- Rows, cell by cell. -/
def RowCells (M : Mem) (sz : Nat) (rows : List (List Dat)) (cs : List Value) : Prop :=
  cs.length = rows.length * sz ∧ ∀ i j (hi : i < rows.length) (_ : j < sz) (hj' : j < rows[i].length) (h : i * sz + j < cs.length), DRel M rows[i][j] cs[i * sz + j]

theorem RowCells.one {sz : Nat} {rows : List (List Dat)} (hs : ∀ r ∈ rows, r.length = sz) {cs : List Value} (h : RowCells M sz rows cs) (h0 : sz ≠ 0) : ∀ v ∈ cs, v.oneCell' = true := by
  intro v hv
  obtain ⟨k, hk, rfl⟩ := List.getElem_of_mem hv
  have hpos : 0 < sz := Nat.pos_of_ne_zero h0
  have hi : k / sz < rows.length := Nat.div_lt_of_lt_mul (by rw [h.1] at hk; rw [Nat.mul_comm]; exact hk)
  have hj : k % sz < sz := Nat.mod_lt _ hpos
  have hrow := hs _ (List.getElem_mem hi)
  have e : k / sz * sz + k % sz = k := by rw [Nat.mul_comm]; exact Nat.div_add_mod k sz
  have := h.2 (k / sz) (k % sz) hi hj (by rw [hrow]; exact hj) (by rw [e]; exact hk)
  simp only [e] at this
  generalize rows[k / sz][k % sz] = y at this
  generalize cs[k] = v at this ⊢
  cases this <;> rfl

theorem mul_lt_row {i j n sz : Nat} (hi : i < n) (hj : j < sz) : i * sz + j < n * sz := by
  have : (i + 1) * sz ≤ n * sz := Nat.mul_le_mul_right _ hi
  rw [Nat.add_mul, Nat.one_mul] at this
  omega

theorem rowsAt_cells {st : St} (hW : WRel G M st w) {sz : Nat} (h0 : sz ≠ 0) {rows : List (List Dat)} (hs : ∀ r ∈ rows, r.length = sz) {A : Option Addr} {cap : Nat} (hR : RowsAt M rows A) :
    ∃ cs, RowCells M sz rows cs ∧ ∀ w', w'.heap = w.heap → (Builtin.firstCells sz rows.length (.slice A rows.length cap)).run P w' = .ok cs.toArray w' := by
  rcases hR with rfl | ⟨b, off, size, vs, rfl, hss, hm, hr⟩
  · refine ⟨[], ⟨by simp, fun i j hi => by simp at hi⟩, fun w' _ => ?_⟩
    cases A with
    | none => simp [Builtin.firstCells]
    | some a' => simp [Builtin.firstCells, loadCells, loadCellsFrom]
  · by_cases hne : rows = []
    · subst hne
      refine ⟨[], ⟨by simp, fun i j hi => by simp at hi⟩, fun w' _ => ?_⟩
      simp [Builtin.firstCells, loadCells, loadCellsFrom]
    · have hlt : 0 < rows.length := List.length_pos_iff.2 hne
      have hsize : size = sz := by rw [← hss rows[0] (List.getElem_mem hlt), hs rows[0] (List.getElem_mem hlt)]
      subst hsize
      refine ⟨tabulate vs (rows.length * size), ⟨by simp [tabulate_length], fun i j hi hj hj' h => by rw [tabulate_get]; exact hr i j hi hj'⟩, fun w' hw => ?_⟩
      refine run_firstCells_some (P := P) w' size rows.length ⟨b, off, none⟩ rows.length cap _ (by simp [tabulate_length]) (fun j v hj => ?_)
      obtain ⟨hlt', rfl⟩ := List.getElem?_eq_some_iff.1 hj
      rw [tabulate_get, add_mid]
      have := hW.imm b (off + j) (vs j) (hm j (by simpa [tabulate_length] using hlt'))
      unfold World.cell? at *
      rw [hw]; exact this

theorem run_app_none {t u ty e : TypeId} {i : TypeInfo} {d : TypeDesc} (ht : P.underlying t = some (.slice e)) (hu : P.underlying u = some d) (hd : d = .slice e ∨ d = .string) (hi : P.info? e = some i)
    {v : Value} (hs : Src P w i.size v 0 []) (base : Option Addr) (sLen sCap : Nat) (hc : sLen ≤ sCap) :
    (Builtin.append_ #[t, u] ty #[.slice base sLen sCap, v]).run P w = .ok (.slice base sLen sCap) w := by
  have hf := hs.cells w rfl
  rcases hd with rfl | rfl <;> cases base <;>
    simp [Builtin.append_, run_underlying ht, run_underlying hu, sizeOf, typeInfo, hi, hs.len, hc, hf, storeCells]

theorem run_app_room {t u ty e : TypeId} {i : TypeInfo} {d : TypeDesc} (ht : P.underlying t = some (.slice e)) (hu : P.underlying u = some d) (hd : d = .slice e ∨ d = .string) (hi : P.info? e = some i)
    {v : Value} {n : Nat} {news : List Value} (hs : Src P w i.size v n news) {g : Nat} {t' : TypeId} {cur : Array Value} (hg : w.heap[g]? = some (.cells cur t' (0, 0))) {sLen sCap : Nat}
    (h1 : ∀ u ∈ news, u.oneCell' = true) (hroom : sLen + n ≤ sCap) (hfit : sLen * i.size + news.length ≤ cur.size) :
    (Builtin.append_ #[t, u] ty #[.slice (some ⟨g, 0, none⟩) sLen sCap, v]).run P w =
      .ok (.slice (some ⟨g, 0, none⟩) (sLen + n) sCap) (w.setRow g (cur.toList.take (sLen * i.size) ++ news ++ cur.toList.drop (sLen * i.size + news.length)).toArray) := by
  have hf := hs.cells w rfl
  have hst := run_storeCells_at P g (sLen * i.size) t' news 0 cur w hg (by simpa using hfit) h1
  simp only [Nat.add_zero] at hst
  rcases hd with rfl | rfl <;>
    simp [Builtin.append_, run_underlying ht, run_underlying hu, sizeOf, typeInfo, hi, hs.len, hroom, hf, Addr.add_lit, hst]

theorem run_app_grow {t u ty e : TypeId} {i : TypeInfo} {z : Value} {d : TypeDesc} (ht : P.underlying t = some (.slice e)) (hu : P.underlying u = some d) (hd : d = .slice e ∨ d = .string) (hi : P.info? e = some i)
    (hz : i.zero = some z) {v : Value} {n : Nat} {news : List Value} (hs : Src P w i.size v n news) {base : Option Addr} {sLen sCap : Nat} {olds : List Value}
    (ho : ∀ w', w'.heap = w.heap → (Builtin.firstCells i.size sLen (.slice base sLen sCap)).run P w' = .ok olds.toArray w')
    (hg : sCap < sLen + n) (hby : 0 < i.bytes) (hfit : (sLen + n) * i.bytes ≤ 140737488355328) :
    (Builtin.append_ #[t, u] ty #[.slice base sLen sCap, v]).run P w =
      .ok (.slice (some ⟨w.heap.size, 0, none⟩) (sLen + n) (grownCap w (sLen + n) sCap e))
        (w.drew.alloc (.cells (olds.toArray ++ news.toArray ++ Builtin.zeroCells z.cells (grownCap w (sLen + n) sCap e - (sLen + n))) e)) := by
  have hn : ¬ (sLen + n ≤ sCap) := by omega
  have hle : sLen + n ≤ 140737488355328 := Nat.le_trans (Nat.le_mul_of_pos_right _ hby) hfit
  have h63' : ¬ (9223372036854775807 < ((sLen : Int) + (n : Int))) := by omega
  have h48 := growslice_fits (need := sLen + n) (old := sCap) (bytes := i.bytes) hg hfit
  have h48' : ¬ (281474976710656 < Builtin.nextslicecap (sLen + n) sCap * i.bytes) := by omega
  have hf := hs.cells w.drew rfl
  have hfo := ho w.drew rfl
  rcases hd with rfl | rfl <;>
    (simp [Builtin.append_, run_underlying ht, run_underlying hu, sizeOf, typeInfo, zeroValue, hi, hz, hs.len, hn, h63', h48', Question.forced, hf, hfo, newRow, grownCap]
     try (congr 2; apply Array.ext'; simp [List.append_assoc]))

end
end Go.Pv
/- append, by value. No condition. -/
namespace Go.Pv

section
variable {D : Fr} {E : PE} {P : Program} {G : Glob} {M : Mem} {N : Nat} {x : X} {a : Act} {w : World} {o : Oper}

theorem RowCells.mono {M' : Mem} (hm : MLe M M') {sz : Nat} {rows : List (List Dat)} {cs : List Value} (h : RowCells M sz rows cs) : RowCells M' sz rows cs :=
  ⟨h.1, fun i j a b c d => (h.2 i j a b c d).mono hm⟩

theorem RowCells.append {sz : Nat} {rows news : List (List Dat)} {cs ds : List Value} (h : RowCells M sz rows cs) (k : RowCells M sz news ds) : RowCells M sz (rows ++ news) (cs ++ ds) := by
  refine ⟨by simp [h.1, k.1, Nat.add_mul], fun i j hi hj hj' hl => ?_⟩
  by_cases hr : i < rows.length
  · have h1 : i * sz + j < cs.length := by rw [h.1]; exact mul_lt_row hr hj
    simp only [List.getElem_append_left hr, List.getElem_append_left h1] at hj' ⊢
    exact h.2 i j hr hj hj' h1
  · have hr' : rows.length ≤ i := by omega
    have e : (i - rows.length) * sz + rows.length * sz = i * sz := by rw [← Nat.add_mul]; congr 1; omega
    have h1 : cs.length ≤ i * sz + j := by rw [h.1]; omega
    simp only [List.getElem_append_right hr', List.getElem_append_right h1] at hj' ⊢
    have hi2 : i - rows.length < news.length := by simp at hi; omega
    have e2 : i * sz + j - cs.length = (i - rows.length) * sz + j := by rw [h.1]; omega
    simp only [e2]
    exact k.2 _ j hi2 hj hj' _

theorem own_of_cells {sz : Nat} {rows : List (List Dat)} {cs : List Value} (hs : ∀ r ∈ rows, r.length = sz) (h : RowCells M sz rows cs) {b cap : Nat} (hm : ∀ o (ho : o < cs.length), M b o = some cs[o]) (hc : rows.length ≤ cap) :
    AVRel M (.own b rows cap) (.slice (some ⟨b, 0, none⟩) rows.length cap) := by
  refine .own b rows cap sz (fun o => cs.getD o undef) hc hs (fun o ho => ?_) (fun i j hi hj => ?_)
  · rw [← h.1] at ho
    rw [hm o ho, List.getD, List.getElem?_eq_getElem ho]; rfl
  · have hj' : j < sz := by rw [← hs _ (List.getElem_mem hi)]; exact hj
    have hl : i * sz + j < cs.length := by rw [h.1]; exact mul_lt_row hi hj'
    rw [List.getD, List.getElem?_eq_getElem hl]
    exact h.2 i j hi hj' hj hl

/-- New rows, with the right to grow. -/
theorem Grows.newTok {st : St} {w' : World} {cs : Array Value} {t : TypeId} (hW : WRel G M st w) (h : Grows w w' cs t (0, 0)) {sz cap : Nat} {rows : List (List Dat)} {front : List Value}
    (hs : ∀ r ∈ rows, r.length = sz) (hR : RowCells M sz rows front) (hcs : cs.size = cap * sz) (hcap : rows.length ≤ cap) (hfr : ∀ o (ho : o < front.length), cs[o]? = some front[o]) :
    WRel G (M.ext w.heap.size cs (rows.length * sz)) (st.setTok w.heap.size ⟨rows.length, cap, sz, none⟩) w' ∧
      AVRel (M.ext w.heap.size cs (rows.length * sz)) (.own w.heap.size rows cap) (.slice (some ⟨w.heap.size, 0, none⟩) rows.length cap) ∧
      Frame st (st.setTok w.heap.size ⟨rows.length, cap, sz, none⟩) M (M.ext w.heap.size cs (rows.length * sz)) w w' := by
  have hf := hW.fresh
  have hB := h.same (k := rows.length * sz) hW
  refine ⟨⟨hB.box, hB.boxM, fun b l hb => ?_, fun b q hb => ?_, hB.imm, hB.glob⟩, ?_, h.frame hW fun b hb h1 h2 => ⟨h1, ?_⟩⟩
  · have hne : b ≠ w.heap.size := Nat.ne_of_lt (hW.box_lt hb)
    rw [St.tok_setTok, if_neg hne]; exact hW.boxT b l hb
  · rw [St.tok_setTok] at hb
    split at hb
    · rename_i e
      cases hb
      subst e
      refine ⟨hcap, ⟨t, cs, h.new, hcs⟩, fun o ho => ?_⟩
      have : ¬ o < rows.length * sz := by simp at ho; omega
      simp [Mem.ext, this]
    · exact hB.tok b q hb
  · refine own_of_cells hs (hR.mono (Grows.mle hW h.size)) (fun o ho => ?_) hcap
    have : o < rows.length * sz := by rw [← hR.1]; exact ho
    simp only [Mem.ext, if_true, if_pos this]
    exact hfr o ho
  · rw [St.tok_setTok, if_neg (by omega)]; exact h2

theorem WRel.dropTok {st : St} (hW : WRel G M st w) (b : Nat) : WRel G M (st.dropTok b) w where
  box := hW.box
  boxM := hW.boxM
  boxT := fun c l hc => by rw [St.tok_dropTok]; split; rfl; exact hW.boxT c l hc
  tok := fun c q hc => by rw [St.tok_dropTok] at hc; split at hc; cases hc; exact hW.tok c q hc
  imm := hW.imm
  glob := hW.glob

/-- In place. -/
def Mem.fill (M : Mem) (b off : Nat) (cs : List Value) : Mem := fun c o => if c = b ∧ off ≤ o ∧ o < off + cs.length then cs[o - off]? else M c o
theorem WRel.fillTok {st : St} (hW : WRel G M st w) {b n cap sz : Nat} (hb : st.tok b = some ⟨n, cap, sz, none⟩) {news : List (List Dat)} {cs : List Value} (hR : RowCells M sz news cs) (hroom : n + news.length ≤ cap)
    {t : TypeId} {cur : Array Value} (hg : w.heap[b]? = some (.cells cur t (0, 0))) (hcur : cur.size = cap * sz) :
    MLe M (M.fill b (n * sz) cs) ∧
    WRel G (M.fill b (n * sz) cs) (st.setTok b ⟨n + news.length, cap, sz, none⟩) (w.setRow b (cur.toList.take (n * sz) ++ cs ++ cur.toList.drop (n * sz + cs.length)).toArray) ∧
      Frame st (st.setTok b ⟨n + news.length, cap, sz, none⟩) M (M.fill b (n * sz) cs) w (w.setRow b (cur.toList.take (n * sz) ++ cs ++ cur.toList.drop (n * sz + cs.length)).toArray) := by
  obtain ⟨_, _, hM⟩ : _ ∧ _ ∧ _ := hW.tok b _ hb
  have hmle : MLe M (M.fill b (n * sz) cs) := by
    intro c o v h
    unfold Mem.fill
    rw [if_neg]
    · exact h
    · rintro ⟨rfl, h1, _⟩
      rw [hM o h1] at h; cases h
  have hbB : ∀ c l, st.box c = some l → c ≠ b := fun c l hc e => by subst e; rw [hW.boxT c l hc] at hb; cases hb
  have hlen : n * sz + cs.length ≤ cur.size := by
    rw [hcur, hR.1, ← Nat.add_mul]; exact Nat.mul_le_mul_right _ hroom
  generalize hrow : (cur.toList.take (n * sz) ++ cs ++ cur.toList.drop (n * sz + cs.length)).toArray = row
  have hrs : row.size = cur.size := by rw [← hrow]; simp; omega
  have hat : ∀ o, row[o]? = if n * sz ≤ o ∧ o < n * sz + cs.length then cs[o - n * sz]? else cur[o]? := by
    intro o
    rw [← hrow, List.getElem?_toArray]
    have hlt : (cur.toList.take (n * sz)).length = n * sz := by simp; omega
    by_cases h1 : o < n * sz
    · rw [if_neg (by omega), List.append_assoc, List.getElem?_append_left (by omega), List.getElem?_take, if_pos h1]
      simp
    · by_cases h2 : o < n * sz + cs.length
      · rw [if_pos (by omega), List.append_assoc, List.getElem?_append_right (by omega), hlt, List.getElem?_append_left (by omega)]
      · have e : (cur.toList.take (n * sz) ++ cs).length = n * sz + cs.length := by rw [List.length_append, hlt]
        rw [if_neg (by omega), List.getElem?_append_right (by omega), e, List.getElem?_drop]
        have : n * sz + cs.length + (o - (n * sz + cs.length)) = o := by omega
        rw [this]; simp
  have hne : ∀ c, c ≠ b → (w.setRow b row).heap[c]? = w.heap[c]? := fun c hc => setRow_other w b c row hc
  have hnew : (w.setRow b row).heap[b]? = some (.cells row t (0, 0)) := setRow_heap w b cur row t _ hg
  have himm : ∀ c o v, (M.fill b (n * sz) cs) c o = some v → (w.setRow b row).cell? ⟨c, o, none⟩ = some v := by
    intro c o v hc
    by_cases hcb : c = b
    · subst hcb
      rw [cell_of_row _ _ _ _ _ _ hnew, hat]
      unfold Mem.fill at hc
      split at hc
      · rename_i e; rw [if_pos ⟨e.2.1, e.2.2⟩]; exact hc
      · rename_i e
        rw [if_neg (fun k => e ⟨rfl, k⟩)]
        have := hW.imm c o v hc
        rw [cell_of_row _ _ _ _ _ _ hg] at this
        exact this
    · rw [World.cell?_of_block (hne c hcb)]
      unfold Mem.fill at hc
      rw [if_neg (fun k => hcb k.1)] at hc
      exact hW.imm c o v hc
  refine ⟨hmle, ⟨fun c l hc => ?_, fun c l hc o => ?_, fun c l hc => ?_, fun c q hc => ?_, himm, fun g cells hgl i hi => ?_⟩, ⟨rfl, rfl, rfl, by simp, fun c hc _ h2 => ?_, fun c o hc h1 _ => ?_, hmle, fun c _ h1 h2 => ⟨h1, ?_⟩⟩⟩
  · obtain ⟨t', cs', h1, h2, h3⟩ := hW.box c l hc
    exact ⟨t', cs', by rw [hne c (hbB c l hc)]; exact h1, h2, fun i a b => (h3 i a b).mono hmle⟩
  · unfold Mem.fill; rw [if_neg (fun k => hbB c l hc k.1)]; exact hW.boxM c l hc o
  · rw [St.tok_setTok, if_neg (hbB c l hc)]; exact hW.boxT c l hc
  · rw [St.tok_setTok] at hc
    split at hc
    · rename_i e
      cases hc
      subst e
      refine ⟨hroom, ⟨t, row, hnew, by rw [hrs, hcur]⟩, fun o ho => ?_⟩
      simp only [Nat.add_mul, ← hR.1] at ho
      have := hR.1
      unfold Mem.fill
      rw [if_neg (by omega)]
      exact hM o (by simp only; omega)
    · rename_i hcb
      exact (hW.tok c q hc).of (hne c hcb) (fun o ho => by unfold Mem.fill; rw [if_neg (fun k => hcb k.1)]; exact ho) hmle
  · obtain ⟨v, h1, h2⟩ := hW.glob g cells hgl i hi
    exact ⟨v, hmle _ _ _ h1, h2.mono hmle⟩
  · have : c ≠ b := fun e => by subst e; rw [hb] at h2; cases h2
    exact hne c this
  · have : c ≠ b := fun e => by subst e; rw [hb] at h1; cases h1
    unfold Mem.fill; rw [if_neg (fun k => this k.1)]
  · have : c ≠ b := fun e => by subst e; rw [hb] at h2; cases h2
    rw [St.tok_setTok, if_neg this]; exact h2

theorem St.setTok_same {st : St} {b : Nat} {k : Tok} (h : st.tok b = some k) : st.setTok b k = st := by
  refine St.ext' rfl (funext fun c => ?_)
  rw [St.tok_setTok]
  split
  · rename_i e; subst e; exact h.symm
  · rfl

theorem Grows.drew {w w' : World} {cs : Array Value} {t : TypeId} {fr : Nat × Nat} (h : Grows w.drew w' cs t fr) : Grows w w' cs t fr := ⟨h.os, h.tape, h.output, h.size, h.old, h.new⟩

/-- All of append, whatever is appended. -/
theorem app_core {t u ty e : TypeId} {i : TypeInfo} {z : Value} {d : TypeDesc} (ht : P.underlying t = some (.slice e)) (hu : P.underlying u = some d) (hd : d = .slice e ∨ d = .string) (hi : P.info? e = some i)
    (hz : i.zero = some z) (hzs : z.cells.size = i.size) (h0 : i.size ≠ 0) (hby : 0 < i.bytes) {st : St} (hW : WRel G M st w) {v vs : Value} {news : List (List Dat)} {cs : List Value} (hs : Src P w i.size v news.length cs) (hR : RowCells M i.size news cs)
    {X : AV} (hX : AVRel M X vs) {m : Mx} (hm : m.st = st) {Q : AV → Mx → Prop} (h : (NF.a i.size i.bytes X news).step (PCallsE P G E) m Q) :
    ∃ r v' w' m' M', (Builtin.append_ #[t, u] ty #[vs, v]).run P w = .ok v' w' ∧ WRel G M' m'.st w' ∧ AVRel M' r v' ∧ Frame st m'.st M M' w w' ∧ Q r m' := by
  subst hm
  obtain ⟨hns, hcase⟩ := h
  have empty : ∀ {A : Option Addr} {n cap : Nat}, news = [] → n ≤ cap → (Builtin.append_ #[t, u] ty #[.slice A n cap, v]).run P w = .ok (.slice A n cap) w := by
    intro A n cap hn hc
    subst hn
    have hcs : cs = [] := List.eq_nil_of_length_eq_zero (by simpa using hR.1)
    subst hcs
    exact run_app_none ht hu hd hi hs A n cap hc
  -- a new row
  have grow : ∀ (rows : List (List Dat)) (A : Option Addr) (n cap : Nat), n = rows.length → (∀ r ∈ rows, r.length = i.size) → RowsAt M rows A → cap < rows.length + news.length → (rows.length + news.length) * i.bytes ≤ 140737488355328 →
      ∀ st', WRel G M st' w → ∃ v' w' M' cap', (Builtin.append_ #[t, u] ty #[.slice A n cap, v]).run P w = .ok v' w' ∧
        WRel G M' (st'.setTok w.heap.size ⟨rows.length + news.length, cap', i.size, none⟩) w' ∧ AVRel M' (.own w.heap.size (rows ++ news) cap') v' ∧ Frame st' (st'.setTok w.heap.size ⟨rows.length + news.length, cap', i.size, none⟩) M M' w w' := by
    intro rows A n cap hn hrs hA hg hfit st' hW'
    subst hn
    obtain ⟨olds, hO, hold⟩ := rowsAt_cells (P := P) hW' h0 hrs (cap := cap) hA
    have hrun := run_app_grow (ty := ty) ht hu hd hi hz hs (base := A) (sCap := cap) hold hg hby hfit
    have hge := grownCap_ge w (rows.length + news.length) cap e
    generalize grownCap w (rows.length + news.length) cap e = c2 at *
    generalize hcs : (olds.toArray ++ cs.toArray ++ Builtin.zeroCells z.cells (c2 - (rows.length + news.length))) = row at hrun
    have hrow : row.size = c2 * i.size := by
      rw [← hcs, Array.size_append, Array.size_append, size_zeroCells, hzs, List.size_toArray, List.size_toArray, hO.1, hR.1, ← Nat.add_mul, ← Nat.add_mul]
      congr 1; omega
    have hall : ∀ r ∈ rows ++ news, r.length = i.size := fun r hr => by
      rcases List.mem_append.1 hr with hr | hr
      · exact hrs r hr
      · exact hns r hr
    have hgr : Grows w (w.drew.alloc (.cells row e)) row e (0, 0) := (Grows.alloc w.drew row e).drew
    have key := hgr.newTok hW' (cap := c2) hall (hO.append hR) hrow (by simpa using hge) (fun o ho => by
      have : row[o]? = (olds ++ cs)[o]? := by
        rw [← hcs, Array.getElem?_append_left (by simpa using ho)]
        simp
      rw [this, List.getElem?_eq_getElem ho])
    rw [List.length_append] at key
    exact ⟨_, _, _, c2, hrun, key.1, key.2.1, key.2.2⟩
  revert hcase
  split
  · rename_i rows
    rintro ⟨hrs, hfit, hq⟩
    obtain ⟨A, cap, rfl, hc, hA⟩ := inv_rows (rows := rows) rfl hX
    have hcap : cap = rows.length := by cases hX <;> rfl
    subst hcap
    split at hq
    · rename_i hn
      exact ⟨_, _, w, m, M, empty hn (Nat.le_refl _), hW, hX, .refl _ _ _, hq⟩
    · rename_i hn
      have hpos : 0 < news.length := List.length_pos_iff.2 hn
      obtain ⟨v', w', M', c2, e1, e2, e3, e4⟩ := grow rows A rows.length rows.length rfl hrs hA (by omega) hfit m.st hW
      exact ⟨_, v', w', _, M', e1, e2, e3, e4, hq _ c2 hW.fresh⟩
  · rename_i b rows cap
    rintro ⟨htok, hrs, hfit, hq1, hq2⟩
    obtain ⟨A, cap', hv, hc, hA⟩ := inv_rows (rows := rows) rfl hX
    by_cases hn : news = []
    · subst hn
      rw [List.append_nil] at hq1
      simp only [List.length_nil, Nat.add_zero] at hq1
      rw [St.setTok_same htok] at hq1
      refine ⟨_, vs, w, m.setSt m.st, M, ?_, hW, hX, .refl _ _ _, hq1⟩
      rw [hv]; exact empty rfl hc
    · have hfull := hX
      cases hX with
      | own b rows cap size vs' hcc hs' hm' hr' =>
      cases hv
      by_cases hroom : rows.length + news.length ≤ cap
      · obtain ⟨_, ⟨t', cur, hg, hcur⟩, hM⟩ : _ ∧ (∃ _ _, _ ∧ _) ∧ _ := hW.tok b _ htok
        simp only at hcur hM
        obtain ⟨hmle, e1, e2⟩ := hW.fillTok htok hR hroom hg hcur
        have hR' := hR
        have hrun := run_app_room (ty := ty) ht hu hd hi hs hg (sLen := rows.length) (sCap := cap) (hR.one hns h0) hroom (by
          rw [hcur, hR.1, ← Nat.add_mul]; exact Nat.mul_le_mul_right _ hroom)
        refine ⟨_, _, _, m.setSt _, _, hrun, e1, ?_, e2, hq1⟩
        -- the rows
        have hall : ∀ r ∈ rows ++ news, r.length = i.size := fun r hr => by
          rcases List.mem_append.1 hr with hr | hr
          · exact hrs r hr
          · exact hns r hr
        have hvs : ∀ o, o < rows.length * i.size → M b o = some (vs' o) := by
          intro o ho
          have hne : rows ≠ [] := by intro e; subst e; simp at ho
          have hlt := List.length_pos_iff.2 hne
          have : size = i.size := by rw [← hs' rows[0] (List.getElem_mem hlt), hrs rows[0] (List.getElem_mem hlt)]
          rw [← this] at ho
          exact hm' o ho
        have hO : RowCells M i.size rows (tabulate vs' (rows.length * i.size)) := by
          refine ⟨by simp [tabulate_length], fun a j ha hj hj' hl => ?_⟩
          rw [tabulate_get]
          have hsz : size = i.size := by rw [← hs' rows[a] (List.getElem_mem ha), hrs rows[a] (List.getElem_mem ha)]
          rw [← hsz]
          exact hr' a j ha hj'
        have key := own_of_cells (b := b) (cap := cap) hall ((hO.append hR).mono hmle) (fun o ho => by
          unfold Mem.fill
          by_cases h1 : o < rows.length * i.size
          · rw [if_neg (by omega), List.getElem_append_left (by rw [tabulate_length]; exact h1), tabulate_get]
            exact hvs o h1
          · simp only [List.length_append, tabulate_length] at ho
            rw [if_pos ⟨rfl, by omega, ho⟩, List.getElem_append_right (by rw [tabulate_length]; omega), List.getElem?_eq_getElem (by omega)]
            simp only [tabulate_length]) (by simpa using hroom)
        rw [List.length_append] at key
        exact key
      · obtain ⟨v', w', M', c2, e1, e2, e3, e4⟩ := grow rows (some ⟨b, 0, none⟩) rows.length cap rfl hrs hA (by omega) hfit (m.st.dropTok b) (hW.dropTok b)
        have hb := hW.tok_lt htok
        refine ⟨_, v', w', m.setSt _, M', e1, e2, e3, ⟨e4.os, e4.tape, e4.output, e4.size, fun c hc h1 h2 => ?_, fun c o hc h1 h2 => ?_, e4.mle, fun c hc h1 h2 => ?_⟩, hq2 _ c2 hW.fresh⟩
        · exact e4.blk c hc h1 (by rw [St.tok_dropTok]; split; rfl; exact h2)
        · exact e4.mem c o hc (by rw [St.tok_dropTok]; split; rfl; exact h1) h2
        · exact e4.domB c hc h1 (by rw [St.tok_dropTok]; split; rfl; exact h2)
  · exact False.elim

end
end Go.Pv
/- Maps, by value and in the machine: a new one, an element laid, an element read. No condition. -/
namespace Go.Pv

section
variable {D : Fr} {E : PE} {P : Program} {G : Glob} {M : Mem} {N : Nat} {x : X} {a : Act} {w : World} {o : Oper}

/-- A kind of keys, and the type's own. -/
def kdD : KK → TypeDesc → Prop
  | .int k, .int k' => k' = k
  | .str, .string => True
  | .bool, .bool => True
  | _, _ => False
theorem cKey_some {t : TypeId} {p : KK × TypeId} (h : cKey P t = some p) : ∃ kt d, P.underlying t = some (.map kt p.2) ∧ P.underlying kt = some d ∧ kdD p.1 d := by
  unfold cKey at h
  split at h <;> (try (cases h; done))
  rename_i k e hu
  split at h <;> cases h
  · rename_i q hq; exact ⟨k, _, hu, hq, rfl⟩
  · rename_i hq; exact ⟨k, _, hu, hq, trivial⟩
  · rename_i hq; exact ⟨k, _, hu, hq, trivial⟩
theorem krel_of {kd : KK} {k : AV} {v : Value} (hk : keyIs kd k = true) (h : AVRel M k v) : KRel kd k v := by
  unfold keyIs at hk
  split at hk <;> (try (cases hk; done))
  · rename_i k k' n
    have := of_decide_eq_true hk
    subst this
    rw [inv_int h]; exact .int _ _
  · rw [inv_str h]; exact .str _
  · rw [inv_bool h]; exact .bool _
theorem krel_isKey {kd : KK} {d : TypeDesc} (hd : kdD kd d) {k : AV} {v : Value} (h : KRel kd k v) : MapKept.IsKey d v := by
  cases h <;> cases d <;> simp_all [kdD, MapKept.IsKey]
theorem ba_beq (a b : ByteArray) : (a == b) = (a.toList == b.toList) := by
  rw [Bool.eq_iff_iff, MapKept.bytes_beq, beq_iff_eq]
  constructor
  · intro h; rw [h]
  · intro h
    rw [ByteArray.toList_eq, ByteArray.toList_eq] at h
    obtain ⟨⟨a⟩⟩ := a
    obtain ⟨⟨b⟩⟩ := b
    simp at h; rw [h]
theorem same_rel {kd : KK} {d : TypeDesc} (hd : kdD kd d) {k k' : AV} {v v' : Value} (h : KRel kd k v) (h' : KRel kd k' v') : Instr.sameNow d v v' = some (keyEq k k') := by
  cases h <;> cases h' <;> cases d <;> simp_all [kdD, Instr.sameNow, keyEq, ba_beq]
theorem eq_rel {kd : KK} {d : TypeDesc} (hd : kdD kd d) {k k' : AV} {v v' : Value} (h : KRel kd k v) (h' : KRel kd k' v') (he : keyEq k k' = true) : v' = v := by
  cases h <;> cases h' <;> cases d <;> simp_all [kdD, keyEq]
  rename_i s s'
  have : (s == s') = true := by rw [ba_beq]; simpa using he
  exact ((MapKept.bytes_beq _ _).1 this).symm
theorem findNow_rel {kd : KK} {d : TypeDesc} (hd : kdD kd d) {k : AV} {v : Value} (h : KRel kd k v) : ∀ (es : List (AV × AV)) (l : List MapEntry) (i : Nat), l.length = es.length → (∀ j (h : j < es.length) (h' : j < l.length), KRel kd es[j].1 l[j].key) →
    Instr.findNow d v l i = some ((mfind es k).map fun j => (i + j, (l.getD j default).val))
  | [], [], _, _, _ => rfl
  | [], _ :: _, _, e, _ => by cases e
  | _ :: _, [], _, e, _ => by cases e
  | e :: es, m :: l, i, hl, hr => by
    have h0 := hr 0 (by simp) (by simp)
    have ih := findNow_rel hd h es l (i + 1) (by simpa using hl) (fun j a b => hr (j + 1) (by simpa using a) (by simpa using b))
    have hs := same_rel hd h h0
    simp only [List.getElem_cons_zero] at hs
    unfold Instr.findNow
    rw [hs]
    cases hk : keyEq k e.1 with
    | true =>
      simp only [mfind, List.findIdx?_cons, hk, if_true, Option.map_some, Nat.add_zero, List.getD_cons_zero]
    | false =>
      simp only [ih]
      simp only [mfind, List.findIdx?_cons, hk, Bool.false_eq_true, if_false, Option.map_map]
      congr 1
      cases hf : List.findIdx? (fun e => keyEq k e.1) es with
      | none => rfl
      | some j => simp only [Option.map_some, Function.comp_apply, List.getD_cons_succ]; congr 2; omega
theorem mfind_some {es : List (AV × AV)} {k : AV} {j : Nat} (h : mfind es k = some j) : ∃ hj : j < es.length, keyEq k es[j].1 = true := by
  unfold mfind at h
  obtain ⟨hj, h1, _⟩ := List.findIdx?_eq_some_iff_getElem.1 h
  exact ⟨hj, h1⟩

theorem setObj_grows {w : World} {b : Nat} {es : Array MapEntry} {clock : Nat} (hb : w.heap[b]? = some (.map es clock)) (o' : Obj) :
    ({ w with heap := w.heap.setIfInBounds b o' } : World).heap[b]? = some o' ∧ ∀ c, c ≠ b → ({ w with heap := w.heap.setIfInBounds b o' } : World).heap[c]? = w.heap[c]? := by
  have hlt : b < w.heap.size := (Array.getElem?_eq_some_iff.1 hb).1
  exact ⟨by simp [hlt], fun c hc => by simp [Ne.symm hc]⟩
/-- Another content. -/
theorem WRel.writeMap {st : St} (hW : WRel G M st w) {b : Nat} {c c' : MapC} (hb : st.tok b = some ⟨0, 0, 0, some c⟩) {es es' : Array MapEntry} {clock clock' : Nat} (hg : w.heap[b]? = some (.map es clock)) (hM : MRel M c' es'.toList) :
    WRel G M (st.setTok b ⟨0, 0, 0, some c'⟩) { w with heap := w.heap.setIfInBounds b (.map es' clock') } ∧ Frame st (st.setTok b ⟨0, 0, 0, some c'⟩) M M w { w with heap := w.heap.setIfInBounds b (.map es' clock') } := by
  obtain ⟨g1, g2⟩ := setObj_grows hg (.map es' clock')
  have hmb : ∀ o, M b o = none := by
    have := hW.tok b _ hb
    exact this.2
  have hbx : ∀ d l, st.box d = some l → d ≠ b := fun d l hd e => by subst e; rw [hW.boxT d l hd] at hb; cases hb
  have hmo : ∀ d o v, M d o = some v → d ≠ b := fun d o v hd e => by subst e; rw [hmb o] at hd; cases hd
  refine ⟨⟨fun d l hd => ?_, hW.boxM, fun d l hd => ?_, fun d q hd => ?_, fun d o v hd => ?_, hW.glob⟩, ⟨rfl, rfl, rfl, by simp, fun d hd h1 h2 => ?_, fun _ _ _ _ _ => rfl, .refl _, fun d _ h1 h2 => ⟨h1, ?_⟩⟩⟩
  · rw [g2 d (hbx d l hd)]; exact hW.box d l hd
  · rw [St.tok_setTok, if_neg (hbx d l hd)]; exact hW.boxT d l hd
  · rw [St.tok_setTok] at hd
    split at hd
    · rename_i e
      cases hd
      subst e
      exact ⟨⟨es', clock', g1, hM⟩, hmb⟩
    · rename_i e
      exact (hW.tok d q hd).of (g2 d e) (fun _ h => h) (.refl _)
  · have := hW.imm d o v hd
    unfold World.cell? at this ⊢
    rw [g2 d (hmo d o v hd)]; exact this
  · exact g2 d (fun e => by subst e; rw [hb] at h2; cases h2)
  · rw [St.tok_setTok, if_neg (fun e => by subst e; rw [hb] at h2; cases h2)]; exact h2
theorem WRel.newMap {st : St} (hW : WRel G M st w) (kd : KK) :
    WRel G M (st.setTok w.heap.size ⟨0, 0, 0, some ⟨kd, []⟩⟩) (w.alloc (.map #[] 0)) ∧ Frame st (st.setTok w.heap.size ⟨0, 0, 0, some ⟨kd, []⟩⟩) M M w (w.alloc (.map #[] 0)) := by
  have hold : ∀ d, d < w.heap.size → (w.alloc (.map #[] 0)).heap[d]? = w.heap[d]? := fun d hd => RowKit.Below.heap_alloc w _ d hd
  have hnew : (w.alloc (.map #[] 0)).heap[w.heap.size]? = some (.map #[] 0) := heap_alloc_new w _
  refine ⟨⟨fun d l hd => ?_, hW.boxM, fun d l hd => ?_, fun d q hd => ?_, fun d o v hd => ?_, hW.glob⟩, ⟨rfl, rfl, rfl, by simp, fun d hd h1 h2 => hold d hd, fun _ _ _ _ _ => rfl, .refl _, fun d hd h1 h2 => ⟨h1, ?_⟩⟩⟩
  · rw [hold d (hW.box_lt hd)]; exact hW.box d l hd
  · rw [St.tok_setTok, if_neg (Nat.ne_of_lt (hW.box_lt hd))]; exact hW.boxT d l hd
  · rw [St.tok_setTok] at hd
    split at hd
    · rename_i e
      cases hd
      subst e
      exact ⟨⟨#[], 0, hnew, rfl, fun i h => by simp at h⟩, fun o => hW.M_new (Nat.le_refl _) o⟩
    · exact (hW.tok d q hd).of (hold d (hW.tok_lt hd)) (fun _ h => h) (.refl _)
  · have := hW.imm d o v hd
    unfold World.cell? at this ⊢
    rw [hold d (hW.imm_lt hd)]; exact this
  · rw [St.tok_setTok, if_neg (by omega)]; exact h2

theorem g_mkmap {t : TypeId} (hx : XRel D G M N x a w) (ho : o.op = .makeMap t none) {po : POp} (hc : cMake0 P t = some po) {Q : AV → Mx → Prop} {Qe : Exit → Act → World → Prop}
    (h : (nf G x.sl po).step (PCallsE P G E) x.m Q) : o.wp P a w (KPost G M x a w o Q) Qe := by
  simp only [cMake0, Option.map_eq_some_iff] at hc
  obtain ⟨p, hp, rfl⟩ := hc
  obtain ⟨e1, e2⟩ := hx.w.newMap p.1
  exact wp_value (v := .map (some w.heap.size)) (m' := Mx.new _) (by simp [execOp, ho, Instr.makeMap]) e1 (.d _ _ (.mapr _)) e2 (h _ hx.w.fresh)

theorem mapTok {st : St} (hW : WRel G M st w) {b : Nat} {c : MapC} (hb : st.tok b = some ⟨0, 0, 0, some c⟩) : ∃ es clock, w.heap[b]? = some (.map es clock) ∧ MRel M c es.toList := (hW.tok b _ hb).1
theorem inv_mapr {b : Nat} {v : Value} (h : AVRel M (.d (.mapr b)) v) : v = .map (some b) := by cases h with | d _ _ h => cases h; rfl
theorem inv_nilm {v : Value} (h : AVRel M (.d .nilm) v) : v = .map none := by cases h with | d _ _ h => cases h; rfl

theorem g_mins {t : TypeId} {p q r : Operand} (hx : XRel D G M N x a w) (ho : o.op = .insert t p q r ∨ o.op = .mapUpdate t p q r) {po : POp} (hc : cMapIns P t p q r = some po) {Q : AV → Mx → Prop} {Qe : Exit → Act → World → Prop}
    (h : (nf G x.sl po).step (PCallsE P G E) x.m Q) : o.wp P a w (KPost G M x a w o Q) Qe := by
  unfold cMapIns at hc
  split at hc <;> cases hc
  rename_i kd ga gb gc hk hga hgb hgc
  obtain ⟨kt, d, hu, hd, hkd⟩ := cKey_some hk
  have h1 := cArg_rel hx hga
  have h2 := cArg_rel hx hgb
  have h3 := cArg_rel hx hgc
  simp only [nf] at h
  split at h <;> (try (exact h.elim))
  rename_i b e1
  rw [e1] at h1
  have hm := inv_mapr h1
  obtain ⟨es, hb, hkey, hq⟩ := h
  obtain ⟨ms, clock, hg, hM⟩ := mapTok hx.w hb
  have hkr := krel_of hkey h2
  have hik := krel_isKey hkd hkr
  have hl : ms.toList.length = es.length := hM.1
  have hf := findNow_rel hkd hkr es ms.toList 0 hl (fun j a b => (hM.2 j a b).1)
  have fin : ∀ (w' : World), (Instr.mapUpdate t (.map (some b)) (a.eval q) (a.eval r)).run P w = .ok () w' → (execOp a.eval o).run P w = .ok .skip w' := by
    intro w' hrun
    rcases ho with ho | ho <;> simp [execOp, ho, hm, hrun]
  cases hfi : mfind es (gb.ev G x.sl) with
  | none =>
    rw [hfi] at hf
    have hrun : (Instr.mapUpdate t (.map (some b)) (a.eval q) (a.eval r)).run P w = .ok () { w with heap := w.heap.setIfInBounds b (.map (ms.push { key := a.eval q, val := a.eval r, born := clock }) (clock + 1)) } := by
      simp [Instr.mapUpdate, run_underlying hu, MapKept.run_getObj_map hg, MapKept.run_checkKey hd hik, MapKept.run_findKey hd hf, MapKept.run_setObj_map _ hg, Result.andThen]
    have hput : mput es (gb.ev G x.sl) (gc.ev G x.sl).weakA = es ++ [(gb.ev G x.sl, (gc.ev G x.sl).weakA)] := by rw [mput, hfi]
    obtain ⟨e2, e3⟩ := hx.w.writeMap (c' := ⟨kd.1, mput es (gb.ev G x.sl) (gc.ev G x.sl).weakA⟩) (es' := ms.push { key := a.eval q, val := a.eval r, born := clock }) (clock' := clock + 1) hb hg (by
      rw [hput]
      refine ⟨by simp [hl], fun i h1 h2' => ?_⟩
      simp only [Array.toList_push]
      by_cases hi : i < es.length
      · simp only [List.getElem_append_left hi, List.getElem_append_left (show i < ms.toList.length by omega)]
        exact hM.2 i hi (by omega)
      · have hie : i = es.length := by simp at h1; omega
        subst hie
        simp only [List.getElem_append_right (Nat.le_refl _), List.getElem_append_right (show ms.toList.length ≤ es.length by omega), Nat.sub_self, hl, List.getElem_cons_zero]
        exact ⟨hkr, weakA_rel h3⟩)
    exact wp_skipped (m' := Mx.new _) (fin _ hrun) e2 e3 hq
  | some j =>
    rw [hfi] at hf
    simp only [Option.map_some, Nat.zero_add] at hf
    obtain ⟨hj, hke⟩ := mfind_some hfi
    have hj' : j < ms.toList.length := by omega
    have hkv := eq_rel hkd hkr (hM.2 j hj hj').1 hke
    have hjs : j < ms.size := by simpa using hj'
    have hgj : ms[j]? = some ms[j] := Array.getElem?_eq_getElem hjs
    have hkv' : ms[j].key = a.eval q := by rw [← hkv]; rfl
    have hrun : (Instr.mapUpdate t (.map (some b)) (a.eval q) (a.eval r)).run P w = .ok () { w with heap := w.heap.setIfInBounds b (.map (ms.modify j fun e => { e with key := a.eval q, val := a.eval r }) clock) } := by
      simp [Instr.mapUpdate, run_underlying hu, MapKept.run_getObj_map hg, MapKept.run_checkKey hd hik, MapKept.run_findKey hd hf, hgj, hkv', MapKept.run_keyThatStays hik, MapKept.run_setObj_map _ hg, Result.andThen]
    have hput : mput es (gb.ev G x.sl) (gc.ev G x.sl).weakA = es.set j (gb.ev G x.sl, (gc.ev G x.sl).weakA) := by rw [mput, hfi]
    obtain ⟨e2, e3⟩ := hx.w.writeMap (c' := ⟨kd.1, mput es (gb.ev G x.sl) (gc.ev G x.sl).weakA⟩) (es' := ms.modify j fun e => { e with key := a.eval q, val := a.eval r }) (clock' := clock) hb hg (by
      rw [hput]
      refine ⟨by simp at hl ⊢; exact hl, fun i h1 h2' => ?_⟩
      have hi : i < es.length := by simpa using h1
      have hi' : i < ms.toList.length := by omega
      simp only [Array.toList_modify, List.getElem_set, List.getElem_modify]
      by_cases hij : j = i
      · subst hij
        simp only [if_true]
        exact ⟨hkr, weakA_rel h3⟩
      · simp only [if_neg hij]
        exact hM.2 i hi hi')
    exact wp_skipped (m' := Mx.new _) (fin _ hrun) e2 e3 hq
theorem cZero_rel0 {t : TypeId} {z : AV} (h : cZero P t = some z) : ∃ v, (zeroValue t).run P w = .ok v w ∧ AVRel M z v := by
  unfold cZero at h
  cases hi : P.info? t with
  | none => rw [hi] at h; cases h
  | some i =>
    cases hz : i.zero with
    | none => simp [hi, hz] at h
    | some v =>
      have run : (zeroValue t).run P w = .ok v w := by simp [zeroValue, typeInfo, hi, hz]
      refine ⟨v, run, ?_⟩
      simp only [hi, hz, Option.bind_some] at h
      cases v <;> first
        | exact cVal_rel h
        | (rename_i cs
           simp only [Option.map_eq_some_iff] at h
           obtain ⟨l, hl, rfl⟩ := h
           obtain ⟨h1, h2⟩ := mapM_some_iff hl
           exact .agg l cs.toList h1.symm fun i a b => cVal_rel (h2 i b a))
theorem tup_rel {X : AV} {v : Value} (b : Bool) (hX : AVRel M X v) : AVRel M (.tup [X, b2 b]) (.tuple #[v, .bool b]) :=
  .tup _ [v, .bool b] rfl fun i h1 h2 => by
    cases i with
    | zero => exact hX
    | succ i => cases i with
      | zero => exact .d _ _ (.bool b)
      | succ i => simp at h1; omega
theorem g_mget {t : TypeId} {p q : Operand} {ok : Bool} (hx : XRel D G M N x a w) (ho : o.op = .lookup t p q ok) {po : POp} (hc : cLookup P t p q ok = some po) {Q : AV → Mx → Prop} {Qe : Exit → Act → World → Prop}
    (h : (nf G x.sl po).step (PCallsE P G E) x.m Q) : o.wp P a w (KPost G M x a w o Q) Qe := by
  unfold cLookup at hc
  split at hc <;> (try (cases hc; done))
  rename_i kd ga gb hk hga hgb
  simp only [Option.map_eq_some_iff] at hc
  obtain ⟨z, hz, rfl⟩ := hc
  obtain ⟨kt, d, hu, hd, hkd⟩ := cKey_some hk
  obtain ⟨zv, hz1, hz2⟩ := cZero_rel0 (M := M) (w := w) hz
  have h1 := cArg_rel hx hga
  have h2 := cArg_rel hx hgb
  simp only [nf] at h
  split at h
  · rename_i b e1
    rw [e1] at h1
    have hm := inv_mapr h1
    obtain ⟨es, hb, hkey, hq⟩ := h
    obtain ⟨ms, clock, hg, hM⟩ := mapTok hx.w hb
    have hkr := krel_of hkey h2
    have hik := krel_isKey hkd hkr
    have hl : ms.toList.length = es.length := hM.1
    have hf := findNow_rel hkd hkr es ms.toList 0 hl (fun j a b => (hM.2 j a b).1)
    cases hfi : mfind es (gb.ev G x.sl) with
    | none =>
      rw [hfi] at hf
      rw [mat, hfi] at hq
      simp only [Option.bind_none] at hq
      refine wp_value (v := if ok then .tuple #[zv, .bool false] else zv) (m' := x.m) ?_ hx.w ?_ (.refl _ _ _) hq
      · simp [execOp, ho, hm, Instr.lookup, run_underlying hu, MapKept.run_getObj_map hg, MapKept.run_checkKey hd hik, MapKept.run_findKey hd hf, hz1, Result.andThen]
      · cases ok
        · exact hz2
        · exact tup_rel false hz2
    | some j =>
      rw [hfi] at hf
      simp only [Option.map_some, Nat.zero_add] at hf
      obtain ⟨hj, hke⟩ := mfind_some hfi
      have hj' : j < ms.toList.length := by omega
      have hgd : ms.toList.getD j default = ms.toList[j] := by rw [List.getD_eq_getElem?_getD, List.getElem?_eq_getElem hj']; rfl
      rw [mat, hfi] at hq
      simp only [Option.bind_some, List.getElem?_eq_getElem hj, Option.map_some] at hq
      rw [hgd] at hf
      have hv := (hM.2 j hj hj').2
      refine wp_value (v := if ok then .tuple #[ms.toList[j].val, .bool true] else ms.toList[j].val) (m' := x.m) ?_ hx.w ?_ (.refl _ _ _) hq
      · simp [execOp, ho, hm, Instr.lookup, run_underlying hu, MapKept.run_getObj_map hg, MapKept.run_checkKey hd hik, MapKept.run_findKey hd hf, Result.andThen]
      · cases ok
        · exact hv
        · exact tup_rel true hv
  · rename_i e1
    rw [e1] at h1
    have hm := inv_nilm h1
    split at h
    · rename_i hkey
      obtain ⟨v, hv, hq⟩ := h
      cases hv
      have hkr := krel_of hkey h2
      have hik := krel_isKey hkd hkr
      have hf : Instr.findNow d (a.eval q) [] 0 = some none := rfl
      refine wp_value (v := if ok then .tuple #[zv, .bool false] else zv) (m' := x.m) ?_ hx.w ?_ (.refl _ _ _) hq
      · simp [execOp, ho, hm, Instr.lookup, run_underlying hu, MapKept.run_checkKey hd hik, MapKept.run_findKey hd hf, hz1, Result.andThen]
      · cases ok
        · exact hz2
        · exact tup_rel false hz2
    · obtain ⟨v, hv, _⟩ := h
      cases hv
  · exact h.elim
end
end Go.Pv
