/- More operations that look at slots alone. No condition. -/
import Derived.Test.YtdggkhnelmonkaaDoorP6
import Derived.Great.BuildSlice
namespace Go.Pv

section
variable {D : Fr} {E : PE} {P : Program} {G : Glob} {M : Mem} {N : Nat} {x : X} {a : Act} {w : World} {o : Oper}

/-- One block more; its first 'k' cells stay. -/
def Mem.ext (M : Mem) (n : Nat) (cs : Array Value) (k : Nat) : Mem := fun b o => if b = n then (if o < k then cs[o]? else none) else M b o
structure Grows (w w' : World) (cs : Array Value) (t : TypeId) (fr : Nat × Nat) : Prop where
  os : w'.os = w.os
  tape : w'.tape = w.tape
  output : w'.output = w.output
  size : w'.heap.size = w.heap.size + 1
  old : ∀ b, b < w.heap.size → w'.heap[b]? = w.heap[b]?
  new : w'.heap[w.heap.size]? = some (.cells cs t fr)
theorem Grows.alloc (w : World) (cs : Array Value) (t : TypeId) : Grows w (w.alloc (.cells cs t)) cs t (0, 0) :=
  ⟨rfl, rfl, rfl, by simp, fun b hb => RowKit.Below.heap_alloc w _ b hb, heap_alloc_new w _⟩
theorem Grows.mle {M : Mem} {st : St} {w w' : World} {cs : Array Value} {k : Nat} (hW : WRel G M st w) (_ : w'.heap.size = w.heap.size + 1) : MLe M (M.ext w.heap.size cs k) := by
  intro b o v h
  unfold Mem.ext
  rw [if_neg (Nat.ne_of_lt (hW.imm_lt h))]; exact h
theorem Grows.frame {M : Mem} {st st' : St} {w w' : World} {cs : Array Value} {t : TypeId} {fr : Nat × Nat} {k : Nat} (hW : WRel G M st w) (h : Grows w w' cs t fr)
    (hd : ∀ b, b < w.heap.size → st.box b = none → st.tok b = none → st'.box b = none ∧ st'.tok b = none) : Frame st st' M (M.ext w.heap.size cs k) w w' where
  os := h.os
  tape := h.tape
  output := h.output
  size := by rw [h.size]; omega
  blk := fun b hb _ _ => h.old b hb
  mem := fun b o hb _ _ => by unfold Mem.ext; rw [if_neg (by omega)]
  mle := Grows.mle hW h.size
  domB := hd
theorem Grows.cell_old {w w' : World} {cs : Array Value} {t : TypeId} {fr : Nat × Nat} (h : Grows w w' cs t fr) {b o : Nat} (hb : b < w.heap.size) : w'.cell? ⟨b, o, none⟩ = w.cell? ⟨b, o, none⟩ :=
  World.cell?_of_block (h.old b hb)
theorem Grows.cell_new {w w' : World} {cs : Array Value} {t : TypeId} {fr : Nat × Nat} (h : Grows w w' cs t fr) (o : Nat) : w'.cell? ⟨w.heap.size, o, none⟩ = cs[o]? :=
  cell_of_row w' w.heap.size o cs t fr h.new
theorem Grows.imm {M : Mem} {st : St} {w w' : World} {cs : Array Value} {t : TypeId} {fr : Nat × Nat} {k : Nat} (hW : WRel G M st w) (h : Grows w w' cs t fr) :
    ∀ b o v, (M.ext w.heap.size cs k) b o = some v → w'.cell? ⟨b, o, none⟩ = some v := by
  intro b o v hb
  unfold Mem.ext at hb
  split at hb
  · rename_i e
    subst e
    split at hb
    · rw [h.cell_new]; exact hb
    · cases hb
  · rw [h.cell_old (hW.imm_lt hb)]; exact hW.imm b o v hb
theorem Grows.glob {M : Mem} {st : St} {w : World} {cs : Array Value} {k : Nat} (hW : WRel G M st w) :
    ∀ g cells, G g = some cells → ∀ i (h : i < cells.length), ∃ v, (M.ext w.heap.size cs k) g i = some v ∧ DRel (M.ext w.heap.size cs k) cells[i] v := by
  intro g cells hg i hi
  obtain ⟨v, hv, hd⟩ := hW.glob g cells hg i hi
  have hm : MLe M (M.ext w.heap.size cs k) := by
    intro b o v h
    unfold Mem.ext
    rw [if_neg (Nat.ne_of_lt (hW.imm_lt h))]; exact h
  exact ⟨v, hm _ _ _ hv, hd.mono hm⟩
/-- The state stays. -/
theorem Grows.same {M : Mem} {st : St} {w w' : World} {cs : Array Value} {t : TypeId} {fr : Nat × Nat} {k : Nat} (hW : WRel G M st w) (h : Grows w w' cs t fr) : WRel G (M.ext w.heap.size cs k) st w' where
  box := fun b l hb => by
    obtain ⟨t', cs', h1, h2, h3⟩ := hW.box b l hb
    exact ⟨t', cs', by rw [h.old b (hW.box_lt hb)]; exact h1, h2, fun i a c => (h3 i a c).mono (Grows.mle hW h.size)⟩
  boxM := fun b l hb o => by unfold Mem.ext; rw [if_neg (Nat.ne_of_lt (hW.box_lt hb))]; exact hW.boxM b l hb o
  boxT := hW.boxT
  tok := fun b q hb => by
    exact (hW.tok b q hb).of (h.old b (hW.tok_lt hb)) (fun o ho => by unfold Mem.ext; rw [if_neg (Nat.ne_of_lt (hW.tok_lt hb))]; exact ho) (Grows.mle hW h.size)
  imm := h.imm hW
  glob := Grows.glob hW

theorem strOfRows_spec : ∀ {rows : List (List Dat)} {l : List UInt8}, strOfRows rows = some l → ∃ xs : List Int, rows = xs.map (fun n => [.int .u8 n]) ∧ l = xs.map fun n => UInt8.ofNat n.toNat
  | [], l, h => by cases h; exact ⟨[], rfl, rfl⟩
  | r :: rest, l, h => by
    unfold strOfRows at h
    split at h
    · rename_i e; cases e
    · rename_i n rest' e
      cases e
      simp only [Option.map_eq_some_iff] at h
      obtain ⟨l', hl, rfl⟩ := h
      obtain ⟨xs, rfl, rfl⟩ := strOfRows_spec hl
      exact ⟨n :: xs, rfl, rfl⟩
    · cases h

/-- Part of a value's cells, as the machine takes it. -/
theorem ldv_part {t : TypeId} {ag : Bool} {sz off : Nat} (hag : aggT P t = some ag) (hsz : sizeT P t = some sz) {cells : List AV} {cs : List Value} (h : ARel M cells cs) {r : AV}
    (hr : ldv ag sz (cells.drop off) = some r) : ∃ v, (part t cs.toArray off).run P w = .ok v w ∧ AVRel M r v := by
  unfold ldv at hr
  split at hr
  · cases hr
  · rename_i hl
    simp only [List.length_drop] at hl
    have hrun := aggT_run hag w
    obtain ⟨_, _, hs⟩ := sizeT_some hsz
    split at hr
    · rename_i hb
      cases hr
      subst hb
      refine ⟨.agg (((cs.drop off).take sz).toArray), ?_, .agg _ _ ?_ (fun i h1 h2 => ?_)⟩
      · simp [part, hrun, hs, List.extract_eq_take_drop]
      · simp [h.1]
      · exact ((h.drop off).take sz).2 i h1 h2
    · rename_i hb
      have hb : ag = false := by simpa using hb
      subst hb
      split at hr
      · rename_i h1
        subst h1
        have hlt : off < cells.length := by omega
        have hlt' : off < cs.length := by rw [h.1]; exact hlt
        refine ⟨cs[off], ?_, ?_⟩
        · simp [part, hrun, hlt']
        · rw [List.head?_drop, List.getElem?_eq_getElem hlt] at hr
          cases hr
          exact h.2 off hlt hlt'
      · cases hr

theorem g_field {t : TypeId} {p : Operand} {f : Nat} (hx : XRel D G M N x a w) (ho : o.op = .field t p f) {po : POp} (hc : cField P t p f = some po) {r : AV} (h : ev G x.sl po = some r) :
    Gives P G M x.m.st a w o r := by
  unfold cField at hc
  split at hc <;> (try (cases hc; done))
  rename_i fs hu
  split at hc <;> (try (cases hc; done))
  rename_i fd hf
  split at hc <;> (try (cases hc; done))
  rename_i sz ag hs hag
  simp only [Option.map_eq_some_iff] at hc
  obtain ⟨g, hg, rfl⟩ := hc
  have h1 := cArg_rel hx hg
  simp only [ev] at h
  split at h <;> (try (cases h; done))
  rename_i cells e
  rw [e] at h1
  obtain ⟨cs, hv, hA⟩ := inv_agg h1
  obtain ⟨v, hr, hR⟩ := ldv_part (P := P) (w := w) hag hs hA h
  exact .same hx.w (by simp [execOp, ho, hv, Instr.field, run_underlying hu, hf, asAgg, hr]) hR

theorem g_iaddr {t : TypeId} {p q : Operand} (hx : XRel D G M N x a w) (ho : o.op = .indexAddr t p q) {po : POp} (hc : cIndexAddr P t p q = some po) {r : AV} (h : ev G x.sl po = some r) :
    Gives P G M x.m.st a w o r := by
  unfold cIndexAddr at hc
  split at hc <;> (try (cases hc; done))
  · rename_i e hu
    split at hc <;> cases hc
    rename_i sz ga gi hs hga hgi
    have h1 := cArg_rel hx hga
    have h2 := cArg_rel hx hgi
    obtain ⟨h0, _, hsz⟩ := sizeT_some hs
    simp only [ev] at h
    split at h <;> (try (cases h; done))
    rename_i k n ei
    rw [ei] at h2
    have run : ∀ (b off len cap : Nat), 0 ≤ n → n < (len : Int) → a.eval p = .slice (some ⟨b, off, none⟩) len cap →
        (execOp a.eval o).run P w = .ok (.value (.pointer (some ⟨b, off + n.toNat * sz, none⟩))) w := by
      intro b off len cap hn0 hn1 e'
      simp [execOp, ho, inv_int h2, e', Instr.indexAt, asIntOf, run_underlying hu, hn0, hn1, hsz, add_mid]
    split at h
    · rename_i b off len cap e'
      rw [e'] at h1
      split at h <;> cases h
      rename_i hn
      exact .same hx.w (run _ _ _ _ hn.1 hn.2 (inv_bsl h1).1) (.d _ _ (.ptr _ _))
    · simp only [Option.bind_eq_some_iff] at h
      obtain ⟨rows, hrows, h⟩ := h
      split at h <;> cases h
      rename_i hn
      obtain ⟨hn0, hn1, hl⟩ := hn
      obtain ⟨A, cap, hv, hcap, hR⟩ := inv_rows hrows h1
      have hlt : n.toNat < rows.length := by omega
      rcases hR with rfl | ⟨b, off, size, vs, rfl, hss, hm, hr⟩
      · simp at hn1; omega
      · have hg : rows.getD n.toNat [] = rows[n.toNat] := by simp [List.getD, hlt]
        rw [hg] at hl ⊢
        have hsize : size = sz := by rw [← hss _ (List.getElem_mem hlt)]; exact hl
        subst hsize
        refine .same hx.w (run _ _ _ _ hn0 hn1 hv) (.elt _ _ _ (fun o => vs (n.toNat * size + o)) (fun o ho => ?_) (fun o ho => hr _ _ hlt ho))
        rw [Nat.add_assoc]
        refine hm _ ?_
        have : (n.toNat + 1) * size ≤ rows.length * size := Nat.mul_le_mul_right _ hlt
        rw [Nat.add_mul, Nat.one_mul] at this
        omega
  · rename_i n e hu
    split at hc <;> cases hc
    rename_i sz ga gi hs hga hgi
    have h1 := cArg_rel hx hga
    have h2 := cArg_rel hx hgi
    obtain ⟨h0, _, hsz⟩ := sizeT_some hs
    simp only [ev] at h
    split at h <;> (try (cases h; done))
    rename_i k i ei
    rw [ei] at h2
    split at h <;> (try (cases h; done))
    rename_i hn
    have run : ∀ b off, a.eval p = .pointer (some ⟨b, off, none⟩) → (execOp a.eval o).run P w = .ok (.value (.pointer (some ⟨b, off + i.toNat * sz, none⟩))) w := by
      intro b off e'
      simp [execOp, ho, inv_int h2, e', Instr.indexAt, Instr.sureAddr, asIntOf, run_underlying hu, hn.1, hn.2, hsz, add_mid]
    split at h <;> cases h <;> rename_i e' <;> rw [e'] at h1
    · exact .same hx.w (run _ _ (inv_ptr h1)) (.d _ _ (.ptr _ _))
    · generalize hv : a.eval p = v at h1
      cases h1 with
      | elt cells b off vs hm hr =>
        refine .same hx.w (run _ _ hv) (.elt _ _ _ (fun o => vs (i.toNat * sz + o)) (fun o ho => ?_) (fun o ho => ?_))
        · simp at ho
          rw [Nat.add_assoc]; exact hm _ (by omega)
        · simp only [List.getElem_drop]
          exact hr _ (by simp at ho; omega)

theorem g_index {t : TypeId} {p q : Operand} (hx : XRel D G M N x a w) (ho : o.op = .index t p q) {po : POp} (hc : cIndex P t p q = some po) {r : AV} (h : ev G x.sl po = some r) :
    Gives P G M x.m.st a w o r := by
  unfold cIndex at hc
  split at hc <;> (try (cases hc; done))
  · rename_i hu
    split at hc <;> cases hc
    rename_i ga gi hga hgi
    have h1 := cArg_rel hx hga
    have h2 := cArg_rel hx hgi
    simp only [ev] at h
    split at h <;> (try (cases h; done))
    rename_i s k n es ei
    rw [es] at h1
    rw [ei] at h2
    split at h <;> (try (cases h; done))
    rename_i hn
    simp only [Option.map_eq_some_iff] at h
    obtain ⟨b, hb, rfl⟩ := h
    exact .same hx.w (v := .int .u8 b.toNat) (by simp [execOp, ho, inv_str h1, inv_int h2, Instr.index, asIntOf, run_underlying hu, hn, hb]) (rel_int _ _)
  · rename_i n e hu
    split at hc <;> cases hc
    rename_i sz ag ga gi hs hag hga hgi
    have h1 := cArg_rel hx hga
    have h2 := cArg_rel hx hgi
    obtain ⟨h0, _, hsz⟩ := sizeT_some hs
    simp only [ev] at h
    split at h <;> (try (cases h; done))
    rename_i cells k i es ei
    rw [es] at h1
    rw [ei] at h2
    split at h <;> (try (cases h; done))
    rename_i hn
    obtain ⟨cs, hv, hA⟩ := inv_agg h1
    obtain ⟨v, hr, hR⟩ := ldv_part (P := P) (w := w) hag hs hA h
    exact .same hx.w (by simp [execOp, ho, hv, inv_int h2, Instr.index, asIntOf, run_underlying hu, hn.1, hn.2, hsz, hr]) hR

theorem g_ext {p : Operand} {n : Nat} (hx : XRel D G M N x a w) (ho : o.op = .extract p n) {g : Arg} (hg : cArg p = some g) {r : AV} (h : ev G x.sl (.ext g n) = some r) :
    Gives P G M x.m.st a w o r := by
  have h1 := cArg_rel hx hg
  simp only [ev] at h
  split at h <;> (try (cases h; done))
  rename_i vs e
  rw [e] at h1
  obtain ⟨cs, hv, hA⟩ := inv_tup h1
  obtain ⟨hlt, rfl⟩ := List.getElem?_eq_some_iff.1 h
  have hlt' : n < cs.length := by rw [hA.1]; exact hlt
  exact .same hx.w (v := cs[n]) (by simp [execOp, ho, hv, Instr.extract, hlt']) (hA.2 n hlt hlt')

theorem g_conv {src dst : TypeId} {p : Operand} (hx : XRel D G M N x a w) (ho : o.op = .convert src dst p) {po : POp} (hc : cConv P src dst p = some po) {r : AV} (h : ev G x.sl po = some r) :
    Gives P G M x.m.st a w o r := by
  unfold cConv at hc
  split at hc
  · rename_i k' k hs hd
    simp only [Option.map_eq_some_iff] at hc
    obtain ⟨g, hg, rfl⟩ := hc
    have h1 := cArg_rel hx hg
    simp only [ev] at h
    split at h <;> cases h
    rename_i k2 n e
    rw [e] at h1
    exact .same hx.w (v := .int k (k.wrap n)) (by simp [execOp, ho, inv_int h1, convert, run_underlying hs, run_underlying hd, Conv.intToInt]) (rel_int _ _)
  · rename_i k' k hs hd
    simp only [Option.map_eq_some_iff] at hc
    obtain ⟨g, hg, rfl⟩ := hc
    have h1 := cArg_rel hx hg
    simp only [ev] at h
    split at h <;> cases h
    rename_i k2 n e
    rw [e] at h1
    exact .same hx.w (v := .float k (k.nearest n)) (by simp [execOp, ho, inv_int h1, convert, run_underlying hs, run_underlying hd, Conv.intToFloat]) (.d _ _ (.flt _ _))
  · rename_i k hs hd
    simp only [Option.map_eq_some_iff] at hc
    obtain ⟨g, hg, rfl⟩ := hc
    have h1 := cArg_rel hx hg
    simp only [ev] at h
    split at h <;> (try (cases h; done))
    rename_i b e
    split at h <;> (try (cases h; done))
    rename_i n hn
    split at h <;> cases h
    rename_i hin
    rw [e] at h1
    exact .same hx.w (v := .int k n) (by simp [execOp, ho, inv_flt h1, convert, run_underlying hs, run_underlying hd, Conv.floatToInt, hn, hin]) (rel_int _ _)
  · rename_i hs hd
    simp only [Option.map_eq_some_iff] at hc
    obtain ⟨g, hg, rfl⟩ := hc
    have h1 := cArg_rel hx hg
    simp only [ev] at h
    split at h <;> cases h
    rename_i s e
    rw [e] at h1
    exact .same hx.w (v := .string s) (by simp [execOp, ho, inv_str h1, convert, run_underlying hs, run_underlying hd]) (.d _ _ (.str _))
  · rename_i e hs hd
    split at hc <;> (try (cases hc; done))
    rename_i he
    simp only [Option.map_eq_some_iff] at hc
    obtain ⟨g, hg, rfl⟩ := hc
    have h1 := cArg_rel hx hg
    simp only [ev, Option.map_eq_some_iff, Option.bind_eq_some_iff] at h
    obtain ⟨l, ⟨rows, hrows, hl⟩, rfl⟩ := h
    obtain ⟨A, cap, hv, hcap, hR⟩ := inv_rows hrows h1
    obtain ⟨xs, rfl, rfl⟩ := strOfRows_spec hl
    refine .same hx.w (v := .string (strOfNums xs)) ?_ (.d _ _ (.str _))
    have run : (convert src dst (a.eval p)).run P w = .ok (.string (strOfNums xs)) w := by
      rw [hv]
      rcases hR with hR | ⟨b, off, size, vs, rfl, hss, hm, hr⟩
      · have : xs = [] := by simpa using hR
        subst this
        rw [run_convert_bytes_string w src dst e A _ cap hs he hd]
        cases A with
        | none => simp [Conv.bytesToString, strOfNums]; rfl
        | some a' =>
          rw [List.map_nil, List.length_nil, run_bytesToString w a' 0 cap [] (by simp [loadCells, loadCellsFrom])]
          rfl
      · cases xs with
        | nil =>
          rw [run_convert_bytes_string w src dst e _ _ cap hs he hd, List.map_nil, List.length_nil, run_bytesToString w _ 0 cap [] (by simp [loadCells, loadCellsFrom])]
          rfl
        | cons n xs' =>
          have hsize : size = 1 := by rw [← hss [.int .u8 n] (by simp)]; rfl
          subst hsize
          refine run_convert_bytes_arg w src e hs he b off _ cap (n :: xs') (by simp) (fun i hi => ?_) dst hd
          have hi' : i < (n :: xs').length := by simpa using hi
          rw [hx.w.imm b (off + i) (vs i) (hm i (by simpa using hi))]
          have := hr i 0 hi (by simp only [List.getElem_map]; exact Nat.one_pos)
          simp only [List.getElem_map, List.getElem_cons_zero, Nat.mul_one, Nat.add_zero] at this
          generalize vs i = u at this
          cases this
          simp only [List.getD, List.getElem?_eq_getElem hi', Option.getD_some]
    simp [execOp, ho, run]
  · rename_i e hs hd
    split at hc <;> (try (cases hc; done))
    rename_i he
    simp only [Option.map_eq_some_iff] at hc
    obtain ⟨g, hg, rfl⟩ := hc
    have h1 := cArg_rel hx hg
    simp only [ev] at h
    split at h <;> cases h
    rename_i s e'
    rw [e'] at h1
    have run := Lib.run_convert_string_bytes w src dst e s hs hd he
    have hgr : Grows w (Lib.bytesWorld w e s) (Lib.bytesCells w e s) e ((Lib.bytesCells w e s).size, (Lib.bytesCells w e s).size + 1) :=
      ⟨rfl, rfl, rfl, Lib.bytesWorld_size w e s, fun b hb => Lib.bytesWorld_at_old w e s b hb, Lib.bytesWorld_at_new w e s⟩
    have hcap : s.size ≤ grownCap w s.size 0 e := grownCap_ge w s.size 0 e
    have hlen : (rowsOfStr s).length = s.size := by simp [rowsOfStr]
    refine ⟨.slice (some ⟨w.heap.size, 0, none⟩) s.size (grownCap w s.size 0 e), _, M.ext w.heap.size (Lib.bytesCells w e s) s.size, by simp [execOp, ho, inv_str h1, run], ?_, hgr.same hx.w, hgr.frame hx.w (fun _ _ a b => ⟨a, b⟩)⟩
    refine .d _ _ ?_
    have := DRel.sl (M := M.ext w.heap.size (Lib.bytesCells w e s) s.size) (rowsOfStr s) w.heap.size 0 (grownCap w s.size 0 e) 1 (fun o => .int .u8 (s.data.toList.getD o 0).toNat) (by rw [hlen]; exact hcap)
      (fun r hr => by simp [rowsOfStr] at hr; obtain ⟨_, _, rfl⟩ := hr; rfl)
      (fun o ho => by
        rw [hlen, Nat.mul_one] at ho
        simp only [Nat.zero_add, Mem.ext, if_true, if_pos ho]
        have := Lib.bytesWorld_cell w e s o ho
        rw [hgr.cell_new] at this
        exact this)
      (fun i j hi hj => by
        have hi' : i < s.data.toList.length := by rw [hlen] at hi; simpa using hi
        simp only [rowsOfStr, List.getElem_map] at hj ⊢
        simp only [List.length_cons, List.length_nil] at hj
        obtain rfl : j = 0 := by omega
        simp only [List.getElem_cons_zero, Nat.mul_one, Nat.add_zero, List.getD, List.getElem?_eq_getElem hi', Option.getD_some]
        exact .int _ _)
    rw [hlen] at this
    exact this
  · cases hc


theorem bnd_run {x : AV} {v : Value} (hx : AVRel M x v) {y n : Nat} (h : bnd x y = some n) (code : BoundsCode) : (Instr.sliceBound v y code).run P w = .ok n w ∧ n ≤ y := by
  unfold bnd at h
  split at h <;> (try (cases h; done))
  rename_i k i
  rw [inv_int hx]
  split at h <;> cases h
  rename_i hi
  exact ⟨by simp [Instr.sliceBound, asIntOf, hi.1, hi.2], by omega⟩

theorem bnds_run (hx : XRel D G M N x a w) {lo hi : Option Operand} {gl gh : Option Arg} (hl : cArgO lo = some gl) (hh : cArgO hi = some gh) {len cap l h : Nat} (isSlice : Bool)
    (e : bnds len cap (gl.map fun (p : Arg) => p.ev G x.sl) (gh.map fun (p : Arg) => p.ev G x.sl) = some (l, h)) (hlen : len ≤ cap) :
    (Instr.sliceBounds isSlice len cap (lo.map a.eval) (hi.map a.eval) none).run P w = .ok (l, h, cap) w ∧ l ≤ h ∧ h ≤ cap := by
  unfold bnds at e
  simp only [Option.bind_eq_some_iff] at e
  obtain ⟨h', e1, l', e2, e3⟩ := e
  simp only [Option.some.injEq, Prod.mk.injEq] at e3
  obtain ⟨rfl, rfl⟩ := e3
  rcases cArgO_rel hx hl with ⟨rfl, rfl⟩ | ⟨yl, pl, rfl, rfl, rl⟩ <;> rcases cArgO_rel hx hh with ⟨rfl, rfl⟩ | ⟨yh, ph, rfl, rfl, rh⟩
  · cases e1; cases e2
    exact ⟨by simp [Instr.sliceBounds], Nat.zero_le _, hlen⟩
  · cases e2
    have k := fun c => bnd_run (P := P) (w := w) rh e1 c
    exact ⟨by simp [Instr.sliceBounds, (k _).1], Nat.zero_le _, (k .index).2⟩
  · cases e1
    have k := fun c => bnd_run (P := P) (w := w) rl e2 c
    exact ⟨by simp [Instr.sliceBounds, (k _).1], (k .index).2, hlen⟩
  · have k := fun c => bnd_run (P := P) (w := w) rh e1 c
    have k2 := fun c => bnd_run (P := P) (w := w) rl e2 c
    exact ⟨by simp [Instr.sliceBounds, (k _).1, (k2 _).1], (k2 .index).2, (k .index).2⟩

theorem bnds_more {n cap : Nat} (hn : n ≤ cap) {lo hi : Option AV} {l h : Nat} (hb : bnds n n lo hi = some (l, h)) : bnds n cap lo hi = some (l, h) ∧ h ≤ n := by
  unfold bnds at hb
  simp only [Option.bind_eq_some_iff] at hb
  obtain ⟨q, hq, l', hl, hl'⟩ := hb
  simp only [Option.some.injEq, Prod.mk.injEq] at hl'
  obtain ⟨rfl, rfl⟩ := hl'
  cases hi with
  | none =>
    cases hq
    exact ⟨by unfold bnds; simp only [Option.bind_some]; rw [hl]; rfl, Nat.le_refl _⟩
  | some v =>
    simp only at hq
    unfold bnd at hq
    split at hq <;> (try (cases hq; done))
    rename_i k i
    split at hq <;> cases hq
    rename_i hi
    refine ⟨?_, by omega⟩
    have : bnd (.d (.int k i)) cap = some i.toNat := by simp only [bnd]; rw [if_pos (by omega)]
    unfold bnds
    simp only [this, Option.bind_some]
    rw [hl]; rfl

theorem RowsAt.cut {rows : List (List Dat)} {b off size : Nat} {vs : Nat → Value} (hss : ∀ r ∈ rows, r.length = size)
    (hm : ∀ o, o < rows.length * size → M b (off + o) = some (vs o)) (hr : ∀ i j (hi : i < rows.length) (hj : j < rows[i].length), DRel M rows[i][j] (vs (i * size + j)))
    {l h cap : Nat} (hlh : l ≤ h) (hh : h ≤ rows.length) (hc : rows.length ≤ cap) : DRel M (.sl ((rows.take h).drop l)) (.slice (some ⟨b, off + l * size, none⟩) (h - l) (cap - l)) := by
  have hlen : ((rows.take h).drop l).length = h - l := by simp; omega
  have := DRel.sl (M := M) ((rows.take h).drop l) b (off + l * size) (cap - l) size (fun o => vs (l * size + o)) (by rw [hlen]; omega)
    (fun r hr' => hss r (List.mem_of_mem_take (List.mem_of_mem_drop hr')))
    (fun o ho => by
      rw [Nat.add_assoc]
      refine hm _ ?_
      rw [hlen, Nat.sub_mul] at ho
      have h1 : l * size ≤ h * size := Nat.mul_le_mul_right _ hlh
      have h2 : h * size ≤ rows.length * size := Nat.mul_le_mul_right _ hh
      omega)
    (fun i j hi hj => by
      have hi' : l + i < rows.length := by rw [hlen] at hi; omega
      simp only [List.getElem_drop, List.getElem_take] at hj ⊢
      rw [← Nat.add_assoc, ← Nat.add_mul]
      exact hr (l + i) j hi' hj)
  rw [hlen] at this
  exact this

theorem g_slice {t : TypeId} {p : Operand} {lo hi mx : Option Operand} (hx : XRel D G M N x a w) (ho : o.op = .slice t p lo hi mx) {po : POp} (hc : cSlice P t p lo hi mx = some po) {r : AV}
    (h : ev G x.sl po = some r) : Gives P G M x.m.st a w o r := by
  unfold cSlice at hc
  split at hc <;> (try (cases hc; done))
  split at hc <;> (try (cases hc; done))
  · rename_i e ga gl gh hu hga hgl hgh
    simp only [Option.map_eq_some_iff] at hc
    obtain ⟨sz, hs, rfl⟩ := hc
    obtain ⟨h0, _, hsz⟩ := sizeT_some hs
    have h1 := cArg_rel hx hga
    simp only [ev] at h
    split at h
    · rename_i b off len cap e'
      rw [e'] at h1
      obtain ⟨hv, hlc⟩ := inv_bsl h1
      simp only [Option.map_eq_some_iff] at h
      obtain ⟨⟨l, h'⟩, hb, rfl⟩ := h
      obtain ⟨hrun, hle, hle2⟩ := bnds_run (P := P) hx hgl hgh true hb hlc
      refine .same hx.w (v := .slice (some ⟨b, if cap = l then off else off + l * sz, none⟩) (h' - l) (cap - l)) ?_ (.bsl _ _ _ _ (by omega))
      by_cases hcl : cap = l
      · subst hcl
        simp [execOp, ho, hv, Instr.sliceAt, Instr.slice, run_underlying hu, hrun, hsz]
      · simp [execOp, ho, hv, Instr.sliceAt, Instr.slice, run_underlying hu, hrun, hsz, hcl, add_mid]
    · simp only [Option.bind_eq_some_iff] at h
      obtain ⟨rows, hrows, ⟨l, h'⟩, hb, h⟩ := h
      split at h
      · rename_i hall
        cases h
        obtain ⟨A, cap, hv, hcap, hR⟩ := inv_rows hrows h1
        obtain ⟨hb', hhr⟩ := bnds_more hcap hb
        obtain ⟨hrun, hle, hle2⟩ := bnds_run (P := P) hx hgl hgh true hb' hcap
        obtain ⟨rfl, rfl⟩ : l = 0 ∧ h' = rows.length := hall
        have hA : ∀ B : Option Addr, B.map (·.add 0) = B := fun B => by
          cases B with
          | none => rfl
          | some c => simp [Addr.add]
        refine .same hx.w (v := .slice A rows.length cap) ?_ (hv ▸ h1)
        by_cases hcl : cap = 0
        · subst hcl
          simp [execOp, ho, hv, Instr.sliceAt, Instr.slice, run_underlying hu, hrun, hsz]
        · simp [execOp, ho, hv, Instr.sliceAt, Instr.slice, run_underlying hu, hrun, hsz, hcl, hA]
      split at h <;> cases h
      rename_i hall
      obtain ⟨A, cap, hv, hcap, hR⟩ := inv_rows hrows h1
      obtain ⟨hb', hhr⟩ := bnds_more hcap hb
      obtain ⟨hrun, hle, hle2⟩ := bnds_run (P := P) hx hgl hgh true hb' hcap
      refine .same hx.w (v := .slice (if cap = l then A else A.map (·.add (l * sz))) (h' - l) (cap - l)) ?_ (.d _ _ ?_)
      · simp [execOp, ho, hv, Instr.sliceAt, Instr.slice, run_underlying hu, hrun, hsz]
      · rcases hR with rfl | ⟨b, off, size, vs, rfl, hss, hm, hr⟩
        · have : h' - l = 0 := by simp at hhr; omega
          simp only [List.take_nil, List.drop_nil, this]
          exact .slE _ _
        · by_cases hemp : h' - l = 0
          · have : (rows.take h').drop l = [] := by apply List.eq_nil_of_length_eq_zero; simp; omega
            rw [this, hemp]; exact .slE _ _
          · have hlt : 0 < rows.length := by omega
            by_cases hcl : cap = l
            · omega
            · rw [if_neg hcl]
              by_cases hl0 : l = 0
              · subst hl0
                simp only [Nat.zero_mul, Option.map_some, add_mid, Nat.add_zero]
                have := RowsAt.cut hss hm hr hle hhr hcap
                simpa using this
              · have hsize : size = sz := by
                  have hall := hall.resolve_left hl0
                  rw [← hss rows[0] (List.getElem_mem hlt)]
                  have := List.all_eq_true.1 hall rows[0] (List.getElem_mem hlt)
                  simpa using this
                subst hsize
                simp only [Option.map_some, add_mid]
                exact RowsAt.cut hss hm hr hle hhr hcap
  · rename_i ga gl gh hu hga hgl hgh
    cases hc
    have h1 := cArg_rel hx hga
    simp only [ev] at h
    split at h <;> (try (cases h; done))
    rename_i s e'
    rw [e'] at h1
    simp only [Option.map_eq_some_iff] at h
    obtain ⟨⟨l, h'⟩, hb, rfl⟩ := h
    obtain ⟨hrun, hle, hle2⟩ := bnds_run (P := P) hx hgl hgh false hb (Nat.le_refl _)
    exact .same hx.w (v := .string (s.extract l h')) (by simp [execOp, ho, inv_str h1, Instr.sliceAt, Instr.slice, run_underlying hu, hrun]) (.d _ _ (.str _))
  · rename_i n e ga gl gh hu hga hgl hgh
    simp only [Option.map_eq_some_iff] at hc
    obtain ⟨sz, hs, rfl⟩ := hc
    obtain ⟨h0, _, hsz⟩ := sizeT_some hs
    have h1 := cArg_rel hx hga
    simp only [ev] at h
    split at h <;> (try (cases h; done))
    · rename_i b off e'
      rw [e'] at h1
      simp only [Option.map_eq_some_iff] at h
      obtain ⟨⟨l, h'⟩, hb, rfl⟩ := h
      obtain ⟨hrun, hle, hle2⟩ := bnds_run (P := P) hx hgl hgh false hb (Nat.le_refl _)
      refine .same hx.w (v := .slice (some ⟨b, if n = l then off else off + l * sz, none⟩) (h' - l) (n - l)) ?_ (.bsl _ _ _ _ (by omega))
      by_cases hcl : n = l
      · subst hcl
        simp [execOp, ho, inv_ptr h1, Instr.sliceAt, Instr.sureAddr, run_underlying hu, hrun, hsz]
      · simp [execOp, ho, inv_ptr h1, Instr.sliceAt, Instr.sureAddr, run_underlying hu, hrun, hsz, hcl, add_mid]
    · rename_i cells e'
      rw [e'] at h1
      split at h <;> (try (cases h; done))
      rename_i hsl
      obtain ⟨rfl, hnc⟩ := hsl
      simp only [Option.map_eq_some_iff] at h
      obtain ⟨⟨l, h'⟩, hb, rfl⟩ := h
      obtain ⟨hrun, hle, hle2⟩ := bnds_run (P := P) hx hgl hgh false hb (Nat.le_refl _)
      generalize hpv : a.eval p = pv at h1
      cases h1 with
      | elt _ b off vs hm hr =>
        refine .same hx.w (v := .slice (some ⟨b, if n = l then off else off + l * 1, none⟩) (h' - l) (n - l)) ?_ (.d _ _ ?_)
        · by_cases hcl : n = l
          · subst hcl
            simp [execOp, ho, hpv, Instr.sliceAt, Instr.sureAddr, run_underlying hu, hrun, hsz]
          · simp [execOp, ho, hpv, Instr.sliceAt, Instr.sureAddr, run_underlying hu, hrun, hsz, hcl, add_mid]
        · have hlen : (((cells.take h').drop l).map fun c => [c]).length = h' - l := by simp; omega
          by_cases hemp : h' - l = 0
          · have : (((cells.take h').drop l).map fun c => [c]) = [] := by apply List.eq_nil_of_length_eq_zero; omega
            rw [this, hemp]; exact .slE _ _
          · have hcl : ¬ n = l := by omega
            rw [if_neg hcl, Nat.mul_one]
            have := DRel.sl (M := M) (((cells.take h').drop l).map fun c => [c]) b (off + l) (n - l) 1 (fun o => vs (l + o)) (by rw [hlen]; omega) (fun r hr => by obtain ⟨c, _, rfl⟩ := List.mem_map.1 hr; rfl)
              (fun o ho => by rw [hlen, Nat.mul_one] at ho; rw [Nat.add_assoc]; exact hm _ (by omega))
              (fun i j hi hj => by
                simp only [List.getElem_map, List.length_singleton] at hj
                obtain rfl : j = 0 := by omega
                rw [hlen] at hi
                simp only [List.getElem_map, List.getElem_drop, List.getElem_take, List.getElem_cons_zero, Nat.mul_one, Nat.add_zero]
                exact hr _ (by omega))
            rw [hlen] at this
            exact this


end
end Go.Pv
/- Structs and slices that are written out; lengths; function values. No condition. -/
namespace Go.Pv

section
variable {D : Fr} {E : PE} {P : Program} {G : Glob} {M : Mem} {N : Nat} {x : X} {a : Act} {w : World} {o : Oper}

theorem fold_cells (off : Nat) (v : Array Value) (cs : Array Value) (h : off + v.size ≤ cs.size) :
    (v.zipIdx.foldl (fun cs (c, j) => cs.setIfInBounds (off + j) c) cs).toList = cs.toList.take off ++ v.toList ++ cs.toList.drop (off + v.size) := by
  obtain ⟨h1, h2⟩ := Great.foldl_set off v.toList 0 cs
  have e : v.zipIdx.foldl (fun cs (x : Value × Nat) => cs.setIfInBounds (off + x.2) x.1) cs = (v.toList.zipIdx 0).foldl (fun cs (x : Value × Nat) => cs.setIfInBounds (off + x.2) x.1) cs := by
    rw [← Array.foldl_toList, Array.toList_zipIdx]
  apply List.ext_getElem?
  intro k
  rw [Array.getElem?_toList]
  show (v.zipIdx.foldl (fun cs (x : Value × Nat) => cs.setIfInBounds (off + x.2) x.1) cs)[k]? = _
  rw [e, h2 k]
  simp only [Nat.add_zero, Array.length_toList]
  by_cases h3 : k < off
  · rw [if_neg (by omega), List.append_assoc, List.getElem?_append_left (by simp; omega), List.getElem?_take, if_pos h3, Array.getElem?_toList]
  · by_cases h4 : k < off + v.size
    · rw [if_pos (by omega), List.append_assoc, List.getElem?_append_right (by simp; omega), List.getElem?_append_left (by simp; omega)]
      have : min off cs.toList.length = off := by simp; omega
      rw [List.length_take, this]
    · rw [if_neg (by omega), List.getElem?_append_right (by simp; omega), List.getElem?_drop]
      have : off + v.size + (k - (List.take off cs.toList ++ v.toList).length) = k := by simp; omega
      rw [this, Array.getElem?_toList]

theorem fill_rel (place : Nat → Option (Nat × Nat)) : ∀ (lp : List (Nat × Nat × AV)) (lr : List (Nat × Value)) (zs : List AV) (cs : Array Value) (out : List AV), ARel M zs cs.toList →
    lr.length = lp.length → (∀ i (h : i < lp.length) (h' : i < lr.length), place lr[i].1 = some (lp[i].1, lp[i].2.1) ∧ lp[i].2.1 ≠ 0 ∧ AVRel M lp[i].2.2 lr[i].2) →
    fillCells zs lp = some out → ∃ cs', Instr.fill place cs lr = some cs' ∧ ARel M out cs'.toList
  | [], [], zs, cs, out, hA, _, _, h => by cases h; exact ⟨cs, rfl, hA⟩
  | [], _ :: _, _, _, _, _, hl, _, _ => by simp at hl
  | _ :: _, [], _, _, _, _, hl, _, _ => by simp at hl
  | (off, sz, y) :: lp, (i, v) :: lr, zs, cs, out, hA, hl, hp, h => by
    obtain ⟨h1, h2, h3⟩ := hp 0 (by simp) (by simp)
    simp only [List.getElem_cons_zero] at h1 h2 h3
    unfold fillCells at h
    split at h
    · rename_i hc
      have hne : y.cells ≠ [] := by intro e; rw [e] at hc; exact h2 hc.1.symm
      have hR := cells_rel h3 hne
      have hsz : v.cells.size = sz := by rw [← Array.length_toList, hR.1]; exact hc.1
      have hcs : off + v.cells.size ≤ cs.size := by rw [hsz, ← Array.length_toList, hA.1]; exact hc.2
      have hnew : ARel M (zs.take off ++ y.cells ++ zs.drop (off + sz)) (v.cells.zipIdx.foldl (fun cs (c, j) => cs.setIfInBounds (off + j) c) cs).toList := by
        rw [fold_cells off v.cells cs hcs, hsz]
        exact ((hA.take off).append hR).append (hA.drop (off + sz))
      obtain ⟨cs', e1, e2⟩ := fill_rel place lp lr _ _ out hnew (by simpa using hl)
        (fun i h h' => by have := hp (i + 1) (by simpa using h) (by simpa using h'); simpa using this) h
      refine ⟨cs', ?_, e2⟩
      unfold Instr.fill
      simp only [h1]
      rw [if_neg (by simp; omega)]
      exact e1
    · cases h

theorem cCells_rel {z : Value} {zs : List AV} (h : cCells z = some zs) : ARel M zs z.cells.toList := by
  obtain ⟨h1, h2⟩ := mapM_some_iff h
  exact ⟨h1.symm, fun i a b => cVal_rel (h2 i b a)⟩

theorem cBuildParts_rel (hx : XRel D G M N x a w) {fs : Array Field} : ∀ {l : List (Nat × Operand)} {ps : List (Nat × Nat × Arg)}, cBuildParts P fs l = some ps →
    ps.length = l.length ∧ ∀ i (h : i < ps.length) (h' : i < l.length), (∃ fd, fs[l[i].1]? = some fd ∧ fd.offset = ps[i].1 ∧ sizeT P fd.type = some ps[i].2.1) ∧ AVRel M (ps[i].2.2.ev G x.sl) (a.eval l[i].2)
  | [], ps, h => by cases h; exact ⟨rfl, fun i h => by simp at h⟩
  | (j, q) :: l, ps, h => by
    unfold cBuildParts at h
    split at h <;> (try (cases h; done))
    rename_i fd g r hf hg hr
    simp only [Option.map_eq_some_iff] at h
    obtain ⟨sz, hs, rfl⟩ := h
    obtain ⟨e1, e2⟩ := cBuildParts_rel hx hr
    refine ⟨by simp [e1], fun i h h' => ?_⟩
    cases i with
    | zero => exact ⟨⟨fd, hf, rfl, hs⟩, cArg_rel hx hg⟩
    | succ i => exact e2 i (by simpa using h) (by simpa using h')
theorem cBuildPartsA_rel (hx : XRel D G M N x a w) {sz : Nat} : ∀ {l : List (Nat × Operand)} {ps : List (Nat × Nat × Arg)}, cBuildPartsA sz l = some ps →
    ps.length = l.length ∧ ∀ i (h : i < ps.length) (h' : i < l.length), (ps[i].1 = l[i].1 * sz ∧ ps[i].2.1 = sz) ∧ AVRel M (ps[i].2.2.ev G x.sl) (a.eval l[i].2)
  | [], ps, h => by cases h; exact ⟨rfl, fun i h => by simp at h⟩
  | (j, q) :: l, ps, h => by
    unfold cBuildPartsA at h
    split at h <;> cases h
    rename_i g r hg hr
    obtain ⟨e1, e2⟩ := cBuildPartsA_rel hx hr
    refine ⟨by simp [e1], fun i h h' => ?_⟩
    cases i with
    | zero => exact ⟨⟨rfl, rfl⟩, cArg_rel hx hg⟩
    | succ i => exact e2 i (by simpa using h) (by simpa using h')

theorem g_build {t : TypeId} {parts : Array (Nat × Operand)} (hx : XRel D G M N x a w) (ho : o.op = .build t parts) {po : POp} (hc : cBuild P t parts = some po) {r : AV} (h : ev G x.sl po = some r) :
    Gives P G M x.m.st a w o r := by
  unfold cBuild at hc
  have hpl : (parts.map fun (i, x) => (i, a.eval x)).toList = parts.toList.map fun (i, x) => (i, a.eval x) := by simp
  split at hc <;> (try (cases hc; done))
  · rename_i z fs hz hu
    split at hc <;> cases hc
    rename_i zs ps places hzs hps hpc
    simp only [ev, Option.map_eq_some_iff] at h
    obtain ⟨out, hf, rfl⟩ := h
    obtain ⟨e1, e2⟩ := cBuildParts_rel hx hps
    obtain ⟨hpl1, hpl2⟩ := mapM_some_iff hpc
    obtain ⟨cs', e3, e4⟩ := fill_rel (places.toArray[·]?) _ (parts.toList.map fun (i, x) => (i, a.eval x)) zs z.cells out (cCells_rel hzs) (by simp [e1])
      (fun i h h' => by
        simp only [List.length_map] at h h'
        obtain ⟨⟨fd, f1, f2, f3⟩, f4⟩ := e2 i h h'
        simp only [List.getElem_map]
        obtain ⟨h0, ⟨inf, f5, f6⟩, _⟩ := sizeT_some f3
        refine ⟨?_, h0, f4⟩
        obtain ⟨hlt, hfd⟩ := Array.getElem?_eq_some_iff.1 f1
        have := hpl2 (parts.toList[i].1) (by simpa using hlt) (by rw [hpl1]; simpa using hlt)
        have e3 : fs.toList[parts.toList[i].1]'(by simpa using hlt) = fd := hfd
        rw [e3, f5, Option.map_some, Option.some.injEq] at this
        rw [List.getElem?_toArray, List.getElem?_eq_getElem (by rw [hpl1]; simpa using hlt), ← this, f2, f6]) hf
    have hb : P.built t (parts.map fun (i, x) => (i, a.eval x)).toList = some cs' := by
      rw [hpl]
      unfold Program.built
      cases hi : P.info? t with
      | none => simp [hi] at hz
      | some it =>
        simp only [hi, Option.bind_some] at hz
        simp only [hu, hz, hpc]
        exact e3
    exact .same hx.w (by simp [execOp, ho, run_build w t _ cs' hb]) (.agg _ cs'.toList e4.1 e4.2)
  · rename_i z n e hz hu
    split at hc <;> (try (cases hc; done))
    rename_i zs sz hzs hs
    simp only [Option.map_eq_some_iff] at hc
    obtain ⟨ps, hps, rfl⟩ := hc
    simp only [ev, Option.map_eq_some_iff] at h
    obtain ⟨out, hf, rfl⟩ := h
    obtain ⟨e1, e2⟩ := cBuildPartsA_rel hx hps
    obtain ⟨h0, ⟨ie, f5, f6⟩, _⟩ := sizeT_some hs
    obtain ⟨cs', e3, e4⟩ := fill_rel (fun i => some (i * sz, sz)) _ (parts.toList.map fun (i, x) => (i, a.eval x)) zs z.cells out (cCells_rel hzs) (by simp [e1])
      (fun i h h' => by
        simp only [List.length_map] at h h'
        obtain ⟨⟨g1, g2⟩, g3⟩ := e2 i h h'
        simp only [List.getElem_map]
        exact ⟨by rw [g1, g2], by rw [g2]; exact h0, g3⟩) hf
    have hb : P.built t (parts.map fun (i, x) => (i, a.eval x)).toList = some cs' := by
      rw [hpl]
      unfold Program.built
      cases hi : P.info? t with
      | none => simp [hi] at hz
      | some it =>
        simp only [hi, Option.bind_some] at hz
        simp only [hu, hz, f5, f6]
        exact e3
    exact .same hx.w (by simp [execOp, ho, run_build w t _ cs' hb]) (.agg _ cs'.toList e4.1 e4.2)

theorem g_mkfn {f : FuncId} {first captured : Array Operand} (hx : XRel D G M N x a w) (ho : o.op = .makeFunc (.func f) first captured) {ga gb : List Arg} (h1 : cArgs first = some ga) (h2 : cArgs captured = some gb)
    {r : AV} (h : ev G x.sl (.mkfn f ga gb) = some r) : Gives P G M x.m.st a w o r := by
  simp only [ev, Option.bind_eq_some_iff, Option.map_eq_some_iff] at h
  obtain ⟨fs, hfs, cs, hcs, rfl⟩ := h
  have r1 := cArgs_rel hx h1
  have r2 := cArgs_rel hx h2
  obtain ⟨l1, k1⟩ := mapM_some_iff hfs
  obtain ⟨l2, k2⟩ := mapM_some_iff hcs
  refine .same hx.w (v := .func (.func f) (first.toList.map a.eval).toArray (captured.toList.map a.eval).toArray) ?_ (.d _ _ (.fn f fs cs _ _ ?_ ?_ (fun i a b => ?_) (fun i a b => ?_)))
  · have e1 : first.map a.eval = (first.toList.map a.eval).toArray := by rw [← Array.toList_map]
    have e2 : captured.map a.eval = (captured.toList.map a.eval).toArray := by rw [← Array.toList_map]
    rw [← e1, ← e2]
    simp [execOp, ho, Instr.makeFunc]
  · rw [r1.1, ← l1]
  · rw [r2.1, ← l2]
  · exact dat_rel (k1 i (by rw [← l1]; exact a) a) (r1.2 i (by rw [← l1]; exact a) b)
  · exact dat_rel (k2 i (by rw [← l2]; exact a) a) (r2.2 i (by rw [← l2]; exact a) b)

theorem g_mki {t : TypeId} {p : Operand} (hx : XRel D G M N x a w) (ho : o.op = .makeInterface t p) {d : TypeDesc} (hu : P.underlying t = some d) (hd : ∀ m, d ≠ .interface m) {g : Arg} (hg : cArg p = some g)
    {r : AV} (h : ev G x.sl (.mki t g) = some r) : Gives P G M x.m.st a w o r := by
  have h1 := cArg_rel hx hg
  have run : (execOp a.eval o).run P w = .ok (.value (.iface t (a.eval p))) w := by
    simp only [execOp, ho, Instr.makeInterface, Sem.run_bind, run_underlying hu, Result.andThen_ok]
    cases d <;> first | rfl | exact absurd rfl (hd _)
  simp only [ev] at h
  split at h
  · rename_i cells e
    rw [e] at h1
    simp only [Option.map_eq_some_iff] at h
    obtain ⟨cs, hcs, rfl⟩ := h
    obtain ⟨vs, hv, hA⟩ := inv_agg h1
    obtain ⟨l1, k1⟩ := mapM_some_iff hcs
    rw [hv] at run
    exact .same hx.w run (.d _ _ (.ifa t cs vs (by rw [hA.1]; exact l1.symm) (fun i a b => dat_rel (k1 i (by rw [l1] at a; exact a) a) (hA.2 i (by rw [l1] at a; exact a) b))))
  · simp only [Option.map_eq_some_iff] at h
    obtain ⟨y, hy, rfl⟩ := h
    exact .same hx.w run (.d _ _ (.ifc t y _ (dat_rel hy h1)))

end
end Go.Pv
/- Slices that are written out, lengths, the greatest and the least; and all operations that look at slots alone, in one. No condition. -/
namespace Go.Pv

section
variable {D : Fr} {E : PE} {P : Program} {G : Glob} {M : Mem} {N : Nat} {x : X} {a : Act} {w : World} {o : Oper}

theorem datCells_rel {y : AV} {row : List Dat} (h : y.datCells = some row) {v : Value} (hv : AVRel M y v) (hne : row ≠ []) :
    v.cells.size = row.length ∧ ∀ j (hj : j < row.length) (hj' : j < v.cells.size), DRel M row[j] v.cells[j] := by
  obtain ⟨l1, k1⟩ := mapM_some_iff h
  have hne' : y.cells ≠ [] := by intro e; rw [e] at l1; exact hne (List.eq_nil_of_length_eq_zero l1)
  have hR := cells_rel hv hne'
  have hs : v.cells.size = row.length := by rw [← Array.length_toList, hR.1, l1]
  exact ⟨hs, fun j hj hj' => dat_rel (k1 j (by rw [← l1]; exact hj) hj) (by have := hR.2 j (by rw [← l1]; exact hj) (by simpa using hj'); simpa using this)⟩

theorem g_bsl {t : TypeId} {len : Nat} {parts : Array (Nat × Operand)} (hx : XRel D G M N x a w) (ho : o.op = .buildSlice t len parts) {po : POp} (hc : cBuildSlice P t len parts = some po) {r : AV}
    (h : ev G x.sl po = some r) : Gives P G M x.m.st a w o r := by
  unfold cBuildSlice at hc
  split at hc <;> (try (cases hc; done))
  rename_i e hu
  split at hc <;> (try (cases hc; done))
  rename_i ie sz as hie hs has
  split at hc <;> (try (cases hc; done))
  rename_i z hz
  split at hc <;> cases hc
  rename_i hcond
  obtain ⟨hidx, hsmall, hzs⟩ := hcond
  obtain ⟨h0, ⟨i', hi1, hi2⟩, hsz⟩ := sizeT_some hs
  rw [hie] at hi1; cases hi1
  simp only [ev, Option.bind_eq_some_iff] at h
  obtain ⟨rows, hrows, h⟩ := h
  split at h <;> cases h
  rename_i hall
  have hall' : ∀ r ∈ rows, r.length = sz := fun r hr => by simpa using List.all_eq_true.1 hall r hr
  obtain ⟨l1, k1⟩ := mapM_some_iff hrows
  have hA : ARel M (as.map fun (p : Arg) => p.ev G x.sl) ((parts.map (·.2)).toList.map a.eval) := cArgs_rel hx has
  have hplen : parts.toList.length = len := by have := congrArg List.length hidx; simpa using this
  have hasl : as.length = len := by have := hA.1; simp at this; rw [← this]; simpa using hplen
  have hrl : rows.length = len := by rw [l1]; simpa using hasl
  let vs : List Value := (parts.map (·.2)).toList.map a.eval
  have hvsl : vs.length = len := by rw [hA.1]; simpa using hasl
  have hv : ∀ i (h1 : i < rows.length) (h2 : i < vs.length), vs[i].cells.size = sz ∧ ∀ j (hj : j < rows[i].length) (hj' : j < vs[i].cells.size), DRel M rows[i][j] vs[i].cells[j] := by
    intro i h1 h2
    have hrow := k1 i (by rw [← l1]; exact h1) h1
    have hlen := hall' rows[i] (List.getElem_mem h1)
    have := datCells_rel hrow (hA.2 i (by rw [← l1]; exact h1) h2) (by intro e; rw [e] at hlen; exact h0 hlen.symm)
    exact ⟨by rw [this.1, hlen], this.2⟩
  have hparts : (parts.map fun (i, x) => (i, a.eval x)).toList = (vs.zipIdx 0).map fun x => (x.2, x.1) := by
    apply List.ext_getElem
    · simp only [Array.toList_map, List.length_map, List.length_zipIdx]; rw [hvsl, hplen]
    · intro k g1 g2
      have hk : k < parts.toList.length := by simpa using g1
      simp only [Array.toList_map, List.getElem_map, List.getElem_zipIdx, Nat.zero_add]
      have hfst : parts.toList[k].1 = k := by
        have := List.getElem_map (f := fun x : Nat × Operand => x.1) (l := parts.toList) (i := k) (h := by simpa using hk)
        rw [← this]
        have h3 : (parts.toList.map fun x : Nat × Operand => x.1)[k]'(by simpa using hk) = (List.range len)[k]'(by simp; omega) := by congr 1
        rw [h3]; simp
      show (parts.toList[k].1, a.eval parts.toList[k].2) = (k, vs[k]'(by omega))
      rw [hfst]
      simp [vs]
  have fin : ∀ cells : Array Value, (Instr.buildSlice t len (parts.map fun (i, x) => (i, a.eval x))).run P w = .ok (.slice (some ⟨w.heap.size, 0, none⟩) len len) (w.alloc (.cells cells e)) →
      cells.size = len * sz → (∀ i (h1 : i < rows.length) (h2 : i < vs.length) j, j < sz → cells[i * sz + j]? = vs[i].cells[j]?) → Gives P G M x.m.st a w o (.full rows) := by
    intro cells hrun hcs hcell
    have hgr := Grows.alloc w cells e
    refine ⟨.slice (some ⟨w.heap.size, 0, none⟩) len len, w.alloc (.cells cells e), M.ext w.heap.size cells (len * sz), by simp [execOp, ho, hrun], ?_, hgr.same hx.w, hgr.frame hx.w (fun _ _ a b => ⟨a, b⟩)⟩
    have := AVRel.full (M := M.ext w.heap.size cells (len * sz)) rows w.heap.size sz (fun k => cells.getD k undef) hall'
      (fun k hk => by
        rw [hrl] at hk
        simp only [Mem.ext, if_true, if_pos hk]
        have : k < cells.size := by omega
        simp [this])
      (fun i j hi hj => by
        have hjs : j < sz := by rw [hall' _ (List.getElem_mem hi)] at hj; exact hj
        have hi2 : i < vs.length := by omega
        obtain ⟨g1, g2⟩ := hv i hi hi2
        have hc := hcell i hi hi2 j hjs
        have hj' : j < vs[i].cells.size := by omega
        rw [Array.getElem?_eq_getElem hj'] at hc
        have : cells.getD (i * sz + j) undef = vs[i].cells[j] := by simp [Array.getD_eq_getD_getElem?, hc]
        rw [this]
        exact (g2 j hj hj').mono (Grows.mle hx.w hgr.size))
    rw [hrl] at this
    exact this
  by_cases hl0 : len = 0
  · subst hl0
    refine fin #[] ?_ (by simp) (fun i h1 => by omega)
    have hp0 : parts = #[] := by rw [← Array.toList_eq_nil_iff]; exact List.eq_nil_of_length_eq_zero hplen
    subst hp0
    simp [Instr.buildSlice, run_underlying hu, hsz, Instr.fill, newRow]
    have : (Array.range 0).map (fun _ => (default : Value)) = #[] := Array.eq_empty_of_size_eq_zero (by simp)
    rw [this]
  · have hcs0 : ((Array.range (len * sz)).map (z.cells[· % z.cells.size]!)).size = len * sz := by simp
    obtain ⟨cells, hf, hcs, hk⟩ := Great.fill_dense (Nat.pos_of_ne_zero h0) vs 0 ((Array.range (len * sz)).map (z.cells[· % z.cells.size]!))
      (fun v hv' => by
        obtain ⟨i, hi, rfl⟩ := List.getElem_of_mem hv'
        exact (hv i (by omega) hi).1) (by rw [Nat.zero_add, hvsl, hcs0]; exact Nat.le_refl _)
    have hpos : ¬ len * ie.size = 0 := by rw [hi2]; exact Nat.mul_ne_zero hl0 h0
    have hrun := run_buildSlice (P := P) w t e len (parts.map fun (i, x) => (i, a.eval x)) cells ie z hu hie hz (by rw [hi2]; omega) hpos (by rw [hi2, hparts]; exact hf)
    refine fin cells hrun (by rw [hcs, hcs0]) (fun i h1 h2 j hj => ?_)
    have hlt : i * sz + j < (0 + vs.length) * sz := by
      have : (i + 1) * sz ≤ vs.length * sz := Nat.mul_le_mul_right _ h2
      rw [Nat.add_mul, Nat.one_mul] at this
      rw [Nat.zero_add]; omega
    rw [hk, if_pos ⟨by rw [Nat.zero_mul]; exact Nat.zero_le _, hlt⟩]
    have hdiv : (i * sz + j) / sz = i := by
      rw [Nat.add_comm, Nat.add_mul_div_right _ _ (Nat.pos_of_ne_zero h0), Nat.div_eq_of_lt hj, Nat.zero_add]
    have hmod : (i * sz + j) % sz = j := by rw [Nat.add_comm, Nat.add_mul_mod_self_right, Nat.mod_eq_of_lt hj]
    rw [hdiv, hmod, Nat.sub_zero, List.getElem?_eq_getElem h2, Option.bind_some]

theorem g_len {t : TypeId} {p : Operand} {c : Call} (hx : XRel D G M N x a w) (ho : o.op = .call c) (hcal : c.callee = .builtin .len) (ha : c.args = #[p]) (ht : c.argTypes = #[t])
    {g : Arg} (hg : cArg p = some g) {r : AV} (h : (∃ e, P.underlying t = some (.slice e)) ∧ ev G x.sl (.len g) = some r ∨ P.underlying t = some .string ∧ ev G x.sl (.lenS g) = some r) : Gives P G M x.m.st a w o r := by
  have h1 := cArg_rel hx hg
  rcases h with ⟨⟨e, hu⟩, h⟩ | ⟨hu, h⟩
  · simp only [ev] at h
    split at h
    · rename_i b off len cap e'
      cases h
      rw [e'] at h1
      exact .same hx.w (v := .int .i64 len) (by simp [execOp, ho, resolve, hcal, ha, ht, invoke, builtin, Builtin.len_, (inv_bsl h1).1, run_underlying hu, goInt]) (rel_int _ _)
    · simp only [Option.map_eq_some_iff] at h
      obtain ⟨rows, hrows, rfl⟩ := h
      obtain ⟨A, cap, hv, hcap, hR⟩ := inv_rows hrows h1
      exact .same hx.w (v := .int .i64 rows.length) (by simp [execOp, ho, resolve, hcal, ha, ht, invoke, builtin, Builtin.len_, hv, run_underlying hu, goInt]) (rel_int _ _)
  · simp only [ev] at h
    split at h <;> cases h
    rename_i s e'
    rw [e'] at h1
    exact .same hx.w (v := .int .i64 s.size) (by simp [execOp, ho, resolve, hcal, ha, ht, invoke, builtin, Builtin.len_, inv_str h1, run_underlying hu, goInt]) (rel_int _ _)

theorem mm_run (mx : Bool) : ∀ (l : List AV) (vs : List Value), ARel M l vs → ∀ (X : AV) (v : Value), AVRel M X v → ∀ r, l.foldlM (mm2 mx) X = some r →
    ∃ u, (vs.foldlM (if mx = true then Builtin.max2 else Builtin.min2) v).run P w = .ok u w ∧ AVRel M r u
  | [], vs, hA, X, v, hX, r, h => by
    have : vs = [] := List.eq_nil_of_length_eq_zero hA.1
    subst this
    simp at h; subst h
    exact ⟨v, rfl, hX⟩
  | y :: l, [], hA, _, _, _, _, _ => by simp [ARel] at hA
  | y :: l, u :: vs, hA, X, v, hX, r, h => by
    simp only [List.foldlM_cons, Option.bind_eq_bind, Option.bind_eq_some_iff] at h
    obtain ⟨z, hz, h⟩ := h
    have hu : AVRel M y u := hA.2 0 (by simp) (by simp)
    have hA' : ARel M l vs := ⟨by simpa using hA.1, fun i a b => hA.2 (i + 1) (by simpa using a) (by simpa using b)⟩
    unfold mm2 at hz
    split at hz <;> (try (cases hz; done))
    rename_i k p k' q
    cases hz
    rw [inv_int hX, inv_int hu]
    obtain ⟨u', e1, e2⟩ := mm_run mx l vs hA' _ (.int k (if mx = true then (if q > p then q else p) else (if q < p then q else p))) (rel_int _ _) r h
    refine ⟨u', ?_, e2⟩
    rw [List.foldlM_cons, Sem.run_bind]
    cases mx
    · have : ((if false = true then Builtin.max2 else Builtin.min2) (.int k p) (.int k' q)).run P w = .ok (.int k (if q < p then q else p)) w := rfl
      rw [this]
      exact e1
    · have : ((if true = true then Builtin.max2 else Builtin.min2) (.int k p) (.int k' q)).run P w = .ok (.int k (if q > p then q else p)) w := rfl
      rw [this]
      exact e1

theorem g_minmax {mx : Bool} {p : Operand} {rest : List Operand} {c : Call} (hx : XRel D G M N x a w) (ho : o.op = .call c) (hcal : c.callee = .builtin (if mx = true then .max else .min)) (ha : c.args.toList = p :: rest)
    {g : Arg} {gs : List Arg} (hg : cArg p = some g) (hgs : rest.mapM cArg = some gs) {r : AV} (h : ev G x.sl (.minmax mx g gs) = some r) : Gives P G M x.m.st a w o r := by
  have h1 := cArg_rel hx hg
  have h2 := cArgs_rel hx hgs
  simp only [ev] at h
  obtain ⟨u, e1, e2⟩ := mm_run (P := P) (w := w) mx _ _ h2 _ _ h1 r h
  have hargs : c.args.toList.map a.eval = a.eval p :: rest.map a.eval := by simp [ha]
  refine .same hx.w (v := u) ?_ e2
  cases mx
  · simp only [Bool.false_eq_true, if_false] at hcal e1
    simp [execOp, ho, resolve, hcal, invoke, builtin, Builtin.min_, hargs, e1]
  · simp only [if_true] at hcal e1
    simp [execOp, ho, resolve, hcal, invoke, builtin, Builtin.max_, hargs, e1]

end
end Go.Pv
