/- More operations that look at slots alone. No condition. -/
import Derived.Test.YtdggkhnelmonkaaDoorP7
namespace Go.Pv

section
variable {D : Fr} {E : PE} {P : Program} {G : Glob} {M : Mem} {N : Nat} {x : X} {a : Act} {w : World} {o : Oper}

/-- One block more; its first 'k' cells stay. -/
def Mem.ext (M : Mem) (n : Nat) (cs : Array Value) (k : Nat) : Mem := fun b o => if b = n then (if o < k then cs[o]? else none) else M b o
structure Grows (w w' : World) (cs : Array Value) (t : TypeId) (fr : Nat × Nat) : Prop where
  os : w'.os = w.os
  tape : w'.tape = w.tape
  output : w'.output = w.output
  size : w'.heap.size = w.heap.size + 1
  old : ∀ b, b < w.heap.size → w'.heap[b]? = w.heap[b]?
  new : w'.heap[w.heap.size]? = some (.cells cs t fr)
theorem Grows.alloc (w : World) (cs : Array Value) (t : TypeId) : Grows w (w.alloc (.cells cs t)) cs t (0, 0) :=
  ⟨rfl, rfl, rfl, by simp, fun b hb => RowKit.Below.heap_alloc w _ b hb, heap_alloc_new w _⟩
theorem Grows.mle {M : Mem} {st : St} {w w' : World} {cs : Array Value} {k : Nat} (hW : WRel G M st w) (_ : w'.heap.size = w.heap.size + 1) : MLe M (M.ext w.heap.size cs k) := by
  intro b o v h
  unfold Mem.ext
  rw [if_neg (Nat.ne_of_lt (hW.imm_lt h))]; exact h
theorem Grows.frame {M : Mem} {st st' : St} {w w' : World} {cs : Array Value} {t : TypeId} {fr : Nat × Nat} {k : Nat} (hW : WRel G M st w) (h : Grows w w' cs t fr)
    (hd : ∀ b, b < w.heap.size → st.box b = none → st.tok b = none → st'.box b = none ∧ st'.tok b = none) : Frame st st' M (M.ext w.heap.size cs k) w w' where
  os := h.os
  tape := h.tape
  output := h.output
  size := by rw [h.size]; omega
  blk := fun b hb _ _ => h.old b hb
  mem := fun b o hb _ _ => by unfold Mem.ext; rw [if_neg (by omega)]
  mle := Grows.mle hW h.size
  domB := hd
theorem Grows.cell_old {w w' : World} {cs : Array Value} {t : TypeId} {fr : Nat × Nat} (h : Grows w w' cs t fr) {b o : Nat} (hb : b < w.heap.size) : w'.cell? ⟨b, o, none⟩ = w.cell? ⟨b, o, none⟩ :=
  World.cell?_of_block (h.old b hb)
theorem Grows.cell_new {w w' : World} {cs : Array Value} {t : TypeId} {fr : Nat × Nat} (h : Grows w w' cs t fr) (o : Nat) : w'.cell? ⟨w.heap.size, o, none⟩ = cs[o]? :=
  cell_of_row w' w.heap.size o cs t fr h.new
theorem Grows.imm {M : Mem} {st : St} {w w' : World} {cs : Array Value} {t : TypeId} {fr : Nat × Nat} {k : Nat} (hW : WRel G M st w) (h : Grows w w' cs t fr) :
    ∀ b o v, (M.ext w.heap.size cs k) b o = some v → w'.cell? ⟨b, o, none⟩ = some v := by
  intro b o v hb
  unfold Mem.ext at hb
  split at hb
  · rename_i e
    subst e
    split at hb
    · rw [h.cell_new]; exact hb
    · cases hb
  · rw [h.cell_old (hW.imm_lt hb)]; exact hW.imm b o v hb
theorem Grows.glob {M : Mem} {st : St} {w : World} {cs : Array Value} {k : Nat} (hW : WRel G M st w) :
    ∀ g cells, G g = some cells → ∀ i (h : i < cells.length), ∃ v, (M.ext w.heap.size cs k) g i = some v ∧ DRel (M.ext w.heap.size cs k) cells[i] v := by
  intro g cells hg i hi
  obtain ⟨v, hv, hd⟩ := hW.glob g cells hg i hi
  have hm : MLe M (M.ext w.heap.size cs k) := by
    intro b o v h
    unfold Mem.ext
    rw [if_neg (Nat.ne_of_lt (hW.imm_lt h))]; exact h
  exact ⟨v, hm _ _ _ hv, hd.mono hm⟩
/-- The state stays. -/
theorem Grows.same {M : Mem} {st : St} {w w' : World} {cs : Array Value} {t : TypeId} {fr : Nat × Nat} {k : Nat} (hW : WRel G M st w) (h : Grows w w' cs t fr) : WRel G (M.ext w.heap.size cs k) st w' where
  box := fun b l hb => by
    obtain ⟨t', cs', h1, h2, h3⟩ := hW.box b l hb
    exact ⟨t', cs', by rw [h.old b (hW.box_lt hb)]; exact h1, h2, fun i a c => (h3 i a c).mono (Grows.mle hW h.size)⟩
  boxM := fun b l hb o => by unfold Mem.ext; rw [if_neg (Nat.ne_of_lt (hW.box_lt hb))]; exact hW.boxM b l hb o
  boxT := hW.boxT
  tok := fun b q hb => by
    obtain ⟨h1, ⟨t', cs', h2, h3⟩, h4⟩ := hW.tok b q hb
    refine ⟨h1, ⟨t', cs', by rw [h.old b (hW.tok_lt hb)]; exact h2, h3⟩, fun o ho => ?_⟩
    unfold Mem.ext; rw [if_neg (Nat.ne_of_lt (hW.tok_lt hb))]; exact h4 o ho
  imm := h.imm hW
  glob := Grows.glob hW

theorem strOfRows_spec : ∀ {rows : List (List Dat)} {l : List UInt8}, strOfRows rows = some l → ∃ xs : List Int, rows = xs.map (fun n => [.int .u8 n]) ∧ l = xs.map fun n => UInt8.ofNat n.toNat
  | [], l, h => by cases h; exact ⟨[], rfl, rfl⟩
  | r :: rest, l, h => by
    unfold strOfRows at h
    split at h
    · rename_i e; cases e
    · rename_i n rest' e
      cases e
      simp only [Option.map_eq_some_iff] at h
      obtain ⟨l', hl, rfl⟩ := h
      obtain ⟨xs, rfl, rfl⟩ := strOfRows_spec hl
      exact ⟨n :: xs, rfl, rfl⟩
    · cases h

/-- Part of a value's cells, as the machine takes it. -/
theorem ldv_part {t : TypeId} {ag : Bool} {sz off : Nat} (hag : aggT P t = some ag) (hsz : sizeT P t = some sz) {cells : List AV} {cs : List Value} (h : ARel M cells cs) {r : AV}
    (hr : ldv ag sz (cells.drop off) = some r) : ∃ v, (part t cs.toArray off).run P w = .ok v w ∧ AVRel M r v := by
  unfold ldv at hr
  split at hr
  · cases hr
  · rename_i hl
    simp only [List.length_drop] at hl
    have hrun := aggT_run hag w
    obtain ⟨_, _, hs⟩ := sizeT_some hsz
    split at hr
    · rename_i hb
      cases hr
      subst hb
      refine ⟨.agg (((cs.drop off).take sz).toArray), ?_, .agg _ _ ?_ (fun i h1 h2 => ?_)⟩
      · simp [part, hrun, hs, List.extract_eq_take_drop]
      · simp [h.1]
      · exact ((h.drop off).take sz).2 i h1 h2
    · rename_i hb
      have hb : ag = false := by simpa using hb
      subst hb
      split at hr
      · rename_i h1
        subst h1
        have hlt : off < cells.length := by omega
        have hlt' : off < cs.length := by rw [h.1]; exact hlt
        refine ⟨cs[off], ?_, ?_⟩
        · simp [part, hrun, hlt']
        · rw [List.head?_drop, List.getElem?_eq_getElem hlt] at hr
          cases hr
          exact h.2 off hlt hlt'
      · cases hr

theorem g_field {t : TypeId} {p : Operand} {f : Nat} (hx : XRel D G M N x a w) (ho : o.op = .field t p f) {po : POp} (hc : cField P t p f = some po) {r : AV} (h : ev G x.sl po = some r) :
    Gives P G M x.m.st a w o r := by
  unfold cField at hc
  split at hc <;> (try (cases hc; done))
  rename_i fs hu
  split at hc <;> (try (cases hc; done))
  rename_i fd hf
  split at hc <;> (try (cases hc; done))
  rename_i sz ag hs hag
  simp only [Option.map_eq_some_iff] at hc
  obtain ⟨g, hg, rfl⟩ := hc
  have h1 := cArg_rel hx hg
  simp only [ev] at h
  split at h <;> (try (cases h; done))
  rename_i cells e
  rw [e] at h1
  obtain ⟨cs, hv, hA⟩ := inv_agg h1
  obtain ⟨v, hr, hR⟩ := ldv_part (P := P) (w := w) hag hs hA h
  exact .same hx.w (by simp [execOp, ho, hv, Instr.field, run_underlying hu, hf, asAgg, hr]) hR

theorem g_iaddr {t : TypeId} {p q : Operand} (hx : XRel D G M N x a w) (ho : o.op = .indexAddr t p q) {po : POp} (hc : cIndexAddr P t p q = some po) {r : AV} (h : ev G x.sl po = some r) :
    Gives P G M x.m.st a w o r := by
  unfold cIndexAddr at hc
  split at hc <;> (try (cases hc; done))
  · rename_i e hu
    split at hc <;> cases hc
    rename_i sz ga gi hs hga hgi
    have h1 := cArg_rel hx hga
    have h2 := cArg_rel hx hgi
    obtain ⟨h0, _, hsz⟩ := sizeT_some hs
    simp only [ev] at h
    split at h <;> (try (cases h; done))
    rename_i k n ei
    rw [ei] at h2
    have run : ∀ (b off len cap : Nat), 0 ≤ n → n < (len : Int) → a.eval p = .slice (some ⟨b, off, none⟩) len cap →
        (execOp a.eval o).run P w = .ok (.value (.pointer (some ⟨b, off + n.toNat * sz, none⟩))) w := by
      intro b off len cap hn0 hn1 e'
      simp [execOp, ho, inv_int h2, e', Instr.indexAt, asIntOf, run_underlying hu, hn0, hn1, hsz, add_mid]
    split at h
    · rename_i b off len cap e'
      rw [e'] at h1
      split at h <;> cases h
      rename_i hn
      exact .same hx.w (run _ _ _ _ hn.1 hn.2 (inv_bsl h1).1) (.d _ _ (.ptr _ _))
    · simp only [Option.bind_eq_some_iff] at h
      obtain ⟨rows, hrows, h⟩ := h
      split at h <;> cases h
      rename_i hn
      obtain ⟨hn0, hn1, hl⟩ := hn
      obtain ⟨A, cap, hv, hcap, hR⟩ := inv_rows hrows h1
      have hlt : n.toNat < rows.length := by omega
      rcases hR with rfl | ⟨b, off, size, vs, rfl, hss, hm, hr⟩
      · simp at hn1; omega
      · have hg : rows.getD n.toNat [] = rows[n.toNat] := by simp [List.getD, hlt]
        rw [hg] at hl ⊢
        have hsize : size = sz := by rw [← hss _ (List.getElem_mem hlt)]; exact hl
        subst hsize
        refine .same hx.w (run _ _ _ _ hn0 hn1 hv) (.elt _ _ _ (fun o => vs (n.toNat * size + o)) (fun o ho => ?_) (fun o ho => hr _ _ hlt ho))
        rw [Nat.add_assoc]
        refine hm _ ?_
        have : (n.toNat + 1) * size ≤ rows.length * size := Nat.mul_le_mul_right _ hlt
        rw [Nat.add_mul, Nat.one_mul] at this
        omega
  · rename_i n e hu
    split at hc <;> cases hc
    rename_i sz ga gi hs hga hgi
    have h1 := cArg_rel hx hga
    have h2 := cArg_rel hx hgi
    obtain ⟨h0, _, hsz⟩ := sizeT_some hs
    simp only [ev] at h
    split at h <;> (try (cases h; done))
    rename_i k i ei
    rw [ei] at h2
    split at h <;> (try (cases h; done))
    rename_i hn
    have run : ∀ b off, a.eval p = .pointer (some ⟨b, off, none⟩) → (execOp a.eval o).run P w = .ok (.value (.pointer (some ⟨b, off + i.toNat * sz, none⟩))) w := by
      intro b off e'
      simp [execOp, ho, inv_int h2, e', Instr.indexAt, Instr.sureAddr, asIntOf, run_underlying hu, hn.1, hn.2, hsz, add_mid]
    split at h <;> cases h <;> rename_i e' <;> rw [e'] at h1
    · exact .same hx.w (run _ _ (inv_ptr h1)) (.d _ _ (.ptr _ _))
    · generalize hv : a.eval p = v at h1
      cases h1 with
      | elt cells b off vs hm hr =>
        refine .same hx.w (run _ _ hv) (.elt _ _ _ (fun o => vs (i.toNat * sz + o)) (fun o ho => ?_) (fun o ho => ?_))
        · simp at ho
          rw [Nat.add_assoc]; exact hm _ (by omega)
        · simp only [List.getElem_drop]
          exact hr _ (by simp at ho; omega)

theorem g_index {t : TypeId} {p q : Operand} (hx : XRel D G M N x a w) (ho : o.op = .index t p q) {po : POp} (hc : cIndex P t p q = some po) {r : AV} (h : ev G x.sl po = some r) :
    Gives P G M x.m.st a w o r := by
  unfold cIndex at hc
  split at hc <;> (try (cases hc; done))
  · rename_i hu
    split at hc <;> cases hc
    rename_i ga gi hga hgi
    have h1 := cArg_rel hx hga
    have h2 := cArg_rel hx hgi
    simp only [ev] at h
    split at h <;> (try (cases h; done))
    rename_i s k n es ei
    rw [es] at h1
    rw [ei] at h2
    split at h <;> (try (cases h; done))
    rename_i hn
    simp only [Option.map_eq_some_iff] at h
    obtain ⟨b, hb, rfl⟩ := h
    exact .same hx.w (v := .int .u8 b.toNat) (by simp [execOp, ho, inv_str h1, inv_int h2, Instr.index, asIntOf, run_underlying hu, hn, hb]) (rel_int _ _)
  · rename_i n e hu
    split at hc <;> cases hc
    rename_i sz ag ga gi hs hag hga hgi
    have h1 := cArg_rel hx hga
    have h2 := cArg_rel hx hgi
    obtain ⟨h0, _, hsz⟩ := sizeT_some hs
    simp only [ev] at h
    split at h <;> (try (cases h; done))
    rename_i cells k i es ei
    rw [es] at h1
    rw [ei] at h2
    split at h <;> (try (cases h; done))
    rename_i hn
    obtain ⟨cs, hv, hA⟩ := inv_agg h1
    obtain ⟨v, hr, hR⟩ := ldv_part (P := P) (w := w) hag hs hA h
    exact .same hx.w (by simp [execOp, ho, hv, inv_int h2, Instr.index, asIntOf, run_underlying hu, hn.1, hn.2, hsz, hr]) hR

theorem g_ext {p : Operand} {n : Nat} (hx : XRel D G M N x a w) (ho : o.op = .extract p n) {g : Arg} (hg : cArg p = some g) {r : AV} (h : ev G x.sl (.ext g n) = some r) :
    Gives P G M x.m.st a w o r := by
  have h1 := cArg_rel hx hg
  simp only [ev] at h
  split at h <;> (try (cases h; done))
  rename_i vs e
  rw [e] at h1
  obtain ⟨cs, hv, hA⟩ := inv_tup h1
  obtain ⟨hlt, rfl⟩ := List.getElem?_eq_some_iff.1 h
  have hlt' : n < cs.length := by rw [hA.1]; exact hlt
  exact .same hx.w (v := cs[n]) (by simp [execOp, ho, hv, Instr.extract, hlt']) (hA.2 n hlt hlt')

theorem g_conv {src dst : TypeId} {p : Operand} (hx : XRel D G M N x a w) (ho : o.op = .convert src dst p) {po : POp} (hc : cConv P src dst p = some po) {r : AV} (h : ev G x.sl po = some r) :
    Gives P G M x.m.st a w o r := by
  unfold cConv at hc
  split at hc
  · rename_i k' k hs hd
    simp only [Option.map_eq_some_iff] at hc
    obtain ⟨g, hg, rfl⟩ := hc
    have h1 := cArg_rel hx hg
    simp only [ev] at h
    split at h <;> cases h
    rename_i k2 n e
    rw [e] at h1
    exact .same hx.w (v := .int k (k.wrap n)) (by simp [execOp, ho, inv_int h1, convert, run_underlying hs, run_underlying hd, Conv.intToInt]) (rel_int _ _)
  · rename_i k' k hs hd
    simp only [Option.map_eq_some_iff] at hc
    obtain ⟨g, hg, rfl⟩ := hc
    have h1 := cArg_rel hx hg
    simp only [ev] at h
    split at h <;> cases h
    rename_i k2 n e
    rw [e] at h1
    exact .same hx.w (v := .float k (k.nearest n)) (by simp [execOp, ho, inv_int h1, convert, run_underlying hs, run_underlying hd, Conv.intToFloat]) (.d _ _ (.flt _ _))
  · rename_i k hs hd
    simp only [Option.map_eq_some_iff] at hc
    obtain ⟨g, hg, rfl⟩ := hc
    have h1 := cArg_rel hx hg
    simp only [ev] at h
    split at h <;> (try (cases h; done))
    rename_i b e
    split at h <;> (try (cases h; done))
    rename_i n hn
    split at h <;> cases h
    rename_i hin
    rw [e] at h1
    exact .same hx.w (v := .int k n) (by simp [execOp, ho, inv_flt h1, convert, run_underlying hs, run_underlying hd, Conv.floatToInt, hn, hin]) (rel_int _ _)
  · rename_i hs hd
    simp only [Option.map_eq_some_iff] at hc
    obtain ⟨g, hg, rfl⟩ := hc
    have h1 := cArg_rel hx hg
    simp only [ev] at h
    split at h <;> cases h
    rename_i s e
    rw [e] at h1
    exact .same hx.w (v := .string s) (by simp [execOp, ho, inv_str h1, convert, run_underlying hs, run_underlying hd]) (.d _ _ (.str _))
  · rename_i e hs hd
    split at hc <;> (try (cases hc; done))
    rename_i he
    simp only [Option.map_eq_some_iff] at hc
    obtain ⟨g, hg, rfl⟩ := hc
    have h1 := cArg_rel hx hg
    simp only [ev, Option.map_eq_some_iff, Option.bind_eq_some_iff] at h
    obtain ⟨l, ⟨rows, hrows, hl⟩, rfl⟩ := h
    obtain ⟨A, cap, hv, hcap, hR⟩ := inv_rows hrows h1
    obtain ⟨xs, rfl, rfl⟩ := strOfRows_spec hl
    refine .same hx.w (v := .string (strOfNums xs)) ?_ (.d _ _ (.str _))
    have run : (convert src dst (a.eval p)).run P w = .ok (.string (strOfNums xs)) w := by
      rw [hv]
      rcases hR with hR | ⟨b, off, size, vs, rfl, hss, hm, hr⟩
      · have : xs = [] := by simpa using hR
        subst this
        rw [run_convert_bytes_string w src dst e A _ cap hs he hd]
        cases A with
        | none => simp [Conv.bytesToString, strOfNums]; rfl
        | some a' =>
          rw [List.map_nil, List.length_nil, run_bytesToString w a' 0 cap [] (by simp [loadCells, loadCellsFrom])]
          rfl
      · cases xs with
        | nil =>
          rw [run_convert_bytes_string w src dst e _ _ cap hs he hd, List.map_nil, List.length_nil, run_bytesToString w _ 0 cap [] (by simp [loadCells, loadCellsFrom])]
          rfl
        | cons n xs' =>
          have hsize : size = 1 := by rw [← hss [.int .u8 n] (by simp)]; rfl
          subst hsize
          refine run_convert_bytes_arg w src e hs he b off _ cap (n :: xs') (by simp) (fun i hi => ?_) dst hd
          have hi' : i < (n :: xs').length := by simpa using hi
          rw [hx.w.imm b (off + i) (vs i) (hm i (by simpa using hi))]
          have := hr i 0 hi (by simp only [List.getElem_map]; exact Nat.one_pos)
          simp only [List.getElem_map, List.getElem_cons_zero, Nat.mul_one, Nat.add_zero] at this
          generalize vs i = u at this
          cases this
          simp only [List.getD, List.getElem?_eq_getElem hi', Option.getD_some]
    simp [execOp, ho, run]
  · rename_i e hs hd
    split at hc <;> (try (cases hc; done))
    rename_i he
    simp only [Option.map_eq_some_iff] at hc
    obtain ⟨g, hg, rfl⟩ := hc
    have h1 := cArg_rel hx hg
    simp only [ev] at h
    split at h <;> cases h
    rename_i s e'
    rw [e'] at h1
    have run := Lib.run_convert_string_bytes w src dst e s hs hd he
    have hgr : Grows w (Lib.bytesWorld w e s) (Lib.bytesCells w e s) e ((Lib.bytesCells w e s).size, (Lib.bytesCells w e s).size + 1) :=
      ⟨rfl, rfl, rfl, Lib.bytesWorld_size w e s, fun b hb => Lib.bytesWorld_at_old w e s b hb, Lib.bytesWorld_at_new w e s⟩
    have hcap : s.size ≤ grownCap w s.size 0 e := grownCap_ge w s.size 0 e
    have hlen : (rowsOfStr s).length = s.size := by simp [rowsOfStr]
    refine ⟨.slice (some ⟨w.heap.size, 0, none⟩) s.size (grownCap w s.size 0 e), _, M.ext w.heap.size (Lib.bytesCells w e s) s.size, by simp [execOp, ho, inv_str h1, run], ?_, hgr.same hx.w, hgr.frame hx.w (fun _ _ a b => ⟨a, b⟩)⟩
    refine .d _ _ ?_
    have := DRel.sl (M := M.ext w.heap.size (Lib.bytesCells w e s) s.size) (rowsOfStr s) w.heap.size 0 (grownCap w s.size 0 e) 1 (fun o => .int .u8 (s.data.toList.getD o 0).toNat) (by rw [hlen]; exact hcap)
      (fun r hr => by simp [rowsOfStr] at hr; obtain ⟨_, _, rfl⟩ := hr; rfl)
      (fun o ho => by
        rw [hlen, Nat.mul_one] at ho
        simp only [Nat.zero_add, Mem.ext, if_true, if_pos ho]
        have := Lib.bytesWorld_cell w e s o ho
        rw [hgr.cell_new] at this
        exact this)
      (fun i j hi hj => by
        have hi' : i < s.data.toList.length := by rw [hlen] at hi; simpa using hi
        simp only [rowsOfStr, List.getElem_map] at hj ⊢
        simp only [List.length_cons, List.length_nil] at hj
        obtain rfl : j = 0 := by omega
        simp only [List.getElem_cons_zero, Nat.mul_one, Nat.add_zero, List.getD, List.getElem?_eq_getElem hi', Option.getD_some]
        exact .int _ _)
    rw [hlen] at this
    exact this
  · cases hc


theorem bnd_run {x : AV} {v : Value} (hx : AVRel M x v) {y n : Nat} (h : bnd x y = some n) (code : BoundsCode) : (Instr.sliceBound v y code).run P w = .ok n w ∧ n ≤ y := by
  unfold bnd at h
  split at h <;> (try (cases h; done))
  rename_i k i
  rw [inv_int hx]
  split at h <;> cases h
  rename_i hi
  exact ⟨by simp [Instr.sliceBound, asIntOf, hi.1, hi.2], by omega⟩

theorem bnds_run (hx : XRel D G M N x a w) {lo hi : Option Operand} {gl gh : Option Arg} (hl : cArgO lo = some gl) (hh : cArgO hi = some gh) {len cap l h : Nat} (isSlice : Bool)
    (e : bnds len cap (gl.map fun (p : Arg) => p.ev G x.sl) (gh.map fun (p : Arg) => p.ev G x.sl) = some (l, h)) (hlen : len ≤ cap) :
    (Instr.sliceBounds isSlice len cap (lo.map a.eval) (hi.map a.eval) none).run P w = .ok (l, h, cap) w ∧ l ≤ h ∧ h ≤ cap := by
  unfold bnds at e
  simp only [Option.bind_eq_some_iff] at e
  obtain ⟨h', e1, l', e2, e3⟩ := e
  simp only [Option.some.injEq, Prod.mk.injEq] at e3
  obtain ⟨rfl, rfl⟩ := e3
  rcases cArgO_rel hx hl with ⟨rfl, rfl⟩ | ⟨yl, pl, rfl, rfl, rl⟩ <;> rcases cArgO_rel hx hh with ⟨rfl, rfl⟩ | ⟨yh, ph, rfl, rfl, rh⟩
  · cases e1; cases e2
    exact ⟨by simp [Instr.sliceBounds], Nat.zero_le _, hlen⟩
  · cases e2
    have k := fun c => bnd_run (P := P) (w := w) rh e1 c
    exact ⟨by simp [Instr.sliceBounds, (k _).1], Nat.zero_le _, (k .index).2⟩
  · cases e1
    have k := fun c => bnd_run (P := P) (w := w) rl e2 c
    exact ⟨by simp [Instr.sliceBounds, (k _).1], (k .index).2, hlen⟩
  · have k := fun c => bnd_run (P := P) (w := w) rh e1 c
    have k2 := fun c => bnd_run (P := P) (w := w) rl e2 c
    exact ⟨by simp [Instr.sliceBounds, (k _).1, (k2 _).1], (k2 .index).2, (k .index).2⟩

theorem bnds_more {n cap : Nat} (hn : n ≤ cap) {lo hi : Option AV} {l h : Nat} (hb : bnds n n lo hi = some (l, h)) : bnds n cap lo hi = some (l, h) ∧ h ≤ n := by
  unfold bnds at hb
  simp only [Option.bind_eq_some_iff] at hb
  obtain ⟨q, hq, l', hl, hl'⟩ := hb
  simp only [Option.some.injEq, Prod.mk.injEq] at hl'
  obtain ⟨rfl, rfl⟩ := hl'
  cases hi with
  | none =>
    cases hq
    exact ⟨by unfold bnds; simp only [Option.bind_some]; rw [hl]; rfl, Nat.le_refl _⟩
  | some v =>
    simp only at hq
    unfold bnd at hq
    split at hq <;> (try (cases hq; done))
    rename_i k i
    split at hq <;> cases hq
    rename_i hi
    refine ⟨?_, by omega⟩
    have : bnd (.d (.int k i)) cap = some i.toNat := by simp only [bnd]; rw [if_pos (by omega)]
    unfold bnds
    simp only [this, Option.bind_some]
    rw [hl]; rfl

theorem RowsAt.cut {rows : List (List Dat)} {b off size : Nat} {vs : Nat → Value} (hss : ∀ r ∈ rows, r.length = size)
    (hm : ∀ o, o < rows.length * size → M b (off + o) = some (vs o)) (hr : ∀ i j (hi : i < rows.length) (hj : j < rows[i].length), DRel M rows[i][j] (vs (i * size + j)))
    {l h cap : Nat} (hlh : l ≤ h) (hh : h ≤ rows.length) (hc : rows.length ≤ cap) : DRel M (.sl ((rows.take h).drop l)) (.slice (some ⟨b, off + l * size, none⟩) (h - l) (cap - l)) := by
  have hlen : ((rows.take h).drop l).length = h - l := by simp; omega
  have := DRel.sl (M := M) ((rows.take h).drop l) b (off + l * size) (cap - l) size (fun o => vs (l * size + o)) (by rw [hlen]; omega)
    (fun r hr' => hss r (List.mem_of_mem_take (List.mem_of_mem_drop hr')))
    (fun o ho => by
      rw [Nat.add_assoc]
      refine hm _ ?_
      rw [hlen, Nat.sub_mul] at ho
      have h1 : l * size ≤ h * size := Nat.mul_le_mul_right _ hlh
      have h2 : h * size ≤ rows.length * size := Nat.mul_le_mul_right _ hh
      omega)
    (fun i j hi hj => by
      have hi' : l + i < rows.length := by rw [hlen] at hi; omega
      simp only [List.getElem_drop, List.getElem_take] at hj ⊢
      rw [← Nat.add_assoc, ← Nat.add_mul]
      exact hr (l + i) j hi' hj)
  rw [hlen] at this
  exact this

theorem g_slice {t : TypeId} {p : Operand} {lo hi mx : Option Operand} (hx : XRel D G M N x a w) (ho : o.op = .slice t p lo hi mx) {po : POp} (hc : cSlice P t p lo hi mx = some po) {r : AV}
    (h : ev G x.sl po = some r) : Gives P G M x.m.st a w o r := by
  unfold cSlice at hc
  split at hc <;> (try (cases hc; done))
  split at hc <;> (try (cases hc; done))
  · rename_i e ga gl gh hu hga hgl hgh
    simp only [Option.map_eq_some_iff] at hc
    obtain ⟨sz, hs, rfl⟩ := hc
    obtain ⟨h0, _, hsz⟩ := sizeT_some hs
    have h1 := cArg_rel hx hga
    simp only [ev] at h
    split at h
    · rename_i b off len cap e'
      rw [e'] at h1
      obtain ⟨hv, hlc⟩ := inv_bsl h1
      simp only [Option.map_eq_some_iff] at h
      obtain ⟨⟨l, h'⟩, hb, rfl⟩ := h
      obtain ⟨hrun, hle, hle2⟩ := bnds_run (P := P) hx hgl hgh true hb hlc
      refine .same hx.w (v := .slice (some ⟨b, if cap = l then off else off + l * sz, none⟩) (h' - l) (cap - l)) ?_ (.bsl _ _ _ _ (by omega))
      by_cases hcl : cap = l
      · subst hcl
        simp [execOp, ho, hv, Instr.sliceAt, Instr.slice, run_underlying hu, hrun, hsz]
      · simp [execOp, ho, hv, Instr.sliceAt, Instr.slice, run_underlying hu, hrun, hsz, hcl, add_mid]
    · simp only [Option.bind_eq_some_iff] at h
      obtain ⟨rows, hrows, ⟨l, h'⟩, hb, h⟩ := h
      split at h
      · rename_i hall
        cases h
        obtain ⟨A, cap, hv, hcap, hR⟩ := inv_rows hrows h1
        obtain ⟨hb', hhr⟩ := bnds_more hcap hb
        obtain ⟨hrun, hle, hle2⟩ := bnds_run (P := P) hx hgl hgh true hb' hcap
        obtain ⟨rfl, rfl⟩ : l = 0 ∧ h' = rows.length := hall
        have hA : ∀ B : Option Addr, B.map (·.add 0) = B := fun B => by
          cases B with
          | none => rfl
          | some c => simp [Addr.add]
        refine .same hx.w (v := .slice A rows.length cap) ?_ (hv ▸ h1)
        by_cases hcl : cap = 0
        · subst hcl
          simp [execOp, ho, hv, Instr.sliceAt, Instr.slice, run_underlying hu, hrun, hsz]
        · simp [execOp, ho, hv, Instr.sliceAt, Instr.slice, run_underlying hu, hrun, hsz, hcl, hA]
      split at h <;> cases h
      rename_i hall
      obtain ⟨A, cap, hv, hcap, hR⟩ := inv_rows hrows h1
      obtain ⟨hb', hhr⟩ := bnds_more hcap hb
      obtain ⟨hrun, hle, hle2⟩ := bnds_run (P := P) hx hgl hgh true hb' hcap
      refine .same hx.w (v := .slice (if cap = l then A else A.map (·.add (l * sz))) (h' - l) (cap - l)) ?_ (.d _ _ ?_)
      · simp [execOp, ho, hv, Instr.sliceAt, Instr.slice, run_underlying hu, hrun, hsz]
      · rcases hR with rfl | ⟨b, off, size, vs, rfl, hss, hm, hr⟩
        · have : h' - l = 0 := by simp at hhr; omega
          simp only [List.take_nil, List.drop_nil, this]
          exact .slE _ _
        · by_cases hemp : h' - l = 0
          · have : (rows.take h').drop l = [] := by apply List.eq_nil_of_length_eq_zero; simp; omega
            rw [this, hemp]; exact .slE _ _
          · have hlt : 0 < rows.length := by omega
            by_cases hcl : cap = l
            · omega
            · rw [if_neg hcl]
              by_cases hl0 : l = 0
              · subst hl0
                simp only [Nat.zero_mul, Option.map_some, add_mid, Nat.add_zero]
                have := RowsAt.cut hss hm hr hle hhr hcap
                simpa using this
              · have hsize : size = sz := by
                  have hall := hall.resolve_left hl0
                  rw [← hss rows[0] (List.getElem_mem hlt)]
                  have := List.all_eq_true.1 hall rows[0] (List.getElem_mem hlt)
                  simpa using this
                subst hsize
                simp only [Option.map_some, add_mid]
                exact RowsAt.cut hss hm hr hle hhr hcap
  · rename_i ga gl gh hu hga hgl hgh
    cases hc
    have h1 := cArg_rel hx hga
    simp only [ev] at h
    split at h <;> (try (cases h; done))
    rename_i s e'
    rw [e'] at h1
    simp only [Option.map_eq_some_iff] at h
    obtain ⟨⟨l, h'⟩, hb, rfl⟩ := h
    obtain ⟨hrun, hle, hle2⟩ := bnds_run (P := P) hx hgl hgh false hb (Nat.le_refl _)
    exact .same hx.w (v := .string (s.extract l h')) (by simp [execOp, ho, inv_str h1, Instr.sliceAt, Instr.slice, run_underlying hu, hrun]) (.d _ _ (.str _))
  · rename_i n e ga gl gh hu hga hgl hgh
    simp only [Option.map_eq_some_iff] at hc
    obtain ⟨sz, hs, rfl⟩ := hc
    obtain ⟨h0, _, hsz⟩ := sizeT_some hs
    have h1 := cArg_rel hx hga
    simp only [ev] at h
    split at h <;> (try (cases h; done))
    · rename_i b off e'
      rw [e'] at h1
      simp only [Option.map_eq_some_iff] at h
      obtain ⟨⟨l, h'⟩, hb, rfl⟩ := h
      obtain ⟨hrun, hle, hle2⟩ := bnds_run (P := P) hx hgl hgh false hb (Nat.le_refl _)
      refine .same hx.w (v := .slice (some ⟨b, if n = l then off else off + l * sz, none⟩) (h' - l) (n - l)) ?_ (.bsl _ _ _ _ (by omega))
      by_cases hcl : n = l
      · subst hcl
        simp [execOp, ho, inv_ptr h1, Instr.sliceAt, Instr.sureAddr, run_underlying hu, hrun, hsz]
      · simp [execOp, ho, inv_ptr h1, Instr.sliceAt, Instr.sureAddr, run_underlying hu, hrun, hsz, hcl, add_mid]
    · rename_i cells e'
      rw [e'] at h1
      split at h <;> (try (cases h; done))
      rename_i hsl
      obtain ⟨rfl, hnc⟩ := hsl
      simp only [Option.map_eq_some_iff] at h
      obtain ⟨⟨l, h'⟩, hb, rfl⟩ := h
      obtain ⟨hrun, hle, hle2⟩ := bnds_run (P := P) hx hgl hgh false hb (Nat.le_refl _)
      generalize hpv : a.eval p = pv at h1
      cases h1 with
      | elt _ b off vs hm hr =>
        refine .same hx.w (v := .slice (some ⟨b, if n = l then off else off + l * 1, none⟩) (h' - l) (n - l)) ?_ (.d _ _ ?_)
        · by_cases hcl : n = l
          · subst hcl
            simp [execOp, ho, hpv, Instr.sliceAt, Instr.sureAddr, run_underlying hu, hrun, hsz]
          · simp [execOp, ho, hpv, Instr.sliceAt, Instr.sureAddr, run_underlying hu, hrun, hsz, hcl, add_mid]
        · have hlen : (((cells.take h').drop l).map fun c => [c]).length = h' - l := by simp; omega
          by_cases hemp : h' - l = 0
          · have : (((cells.take h').drop l).map fun c => [c]) = [] := by apply List.eq_nil_of_length_eq_zero; omega
            rw [this, hemp]; exact .slE _ _
          · have hcl : ¬ n = l := by omega
            rw [if_neg hcl, Nat.mul_one]
            have := DRel.sl (M := M) (((cells.take h').drop l).map fun c => [c]) b (off + l) (n - l) 1 (fun o => vs (l + o)) (by rw [hlen]; omega) (fun r hr => by obtain ⟨c, _, rfl⟩ := List.mem_map.1 hr; rfl)
              (fun o ho => by rw [hlen, Nat.mul_one] at ho; rw [Nat.add_assoc]; exact hm _ (by omega))
              (fun i j hi hj => by
                simp only [List.getElem_map, List.length_singleton] at hj
                obtain rfl : j = 0 := by omega
                rw [hlen] at hi
                simp only [List.getElem_map, List.getElem_drop, List.getElem_take, List.getElem_cons_zero, Nat.mul_one, Nat.add_zero]
                exact hr _ (by omega))
            rw [hlen] at this
            exact this


end
end Go.Pv
