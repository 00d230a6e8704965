/- Slices that are written out, lengths, the greatest and the least; and all operations that look at slots alone, in one. No condition. -/
import Derived.Test.YtdggkhnelmonkaaDoorP9
namespace Go.Pv

section
variable {D : Fr} {E : PE} {P : Program} {G : Glob} {M : Mem} {N : Nat} {x : X} {a : Act} {w : World} {o : Oper}

theorem datCells_rel {y : AV} {row : List Dat} (h : y.datCells = some row) {v : Value} (hv : AVRel M y v) (hne : row ≠ []) :
    v.cells.size = row.length ∧ ∀ j (hj : j < row.length) (hj' : j < v.cells.size), DRel M row[j] v.cells[j] := by
  obtain ⟨l1, k1⟩ := mapM_some_iff h
  have hne' : y.cells ≠ [] := by intro e; rw [e] at l1; exact hne (List.eq_nil_of_length_eq_zero l1)
  have hR := cells_rel hv hne'
  have hs : v.cells.size = row.length := by rw [← Array.length_toList, hR.1, l1]
  exact ⟨hs, fun j hj hj' => dat_rel (k1 j (by rw [← l1]; exact hj) hj) (by have := hR.2 j (by rw [← l1]; exact hj) (by simpa using hj'); simpa using this)⟩

theorem g_bsl {t : TypeId} {len : Nat} {parts : Array (Nat × Operand)} (hx : XRel D G M N x a w) (ho : o.op = .buildSlice t len parts) {po : POp} (hc : cBuildSlice P t len parts = some po) {r : AV}
    (h : ev G x.sl po = some r) : Gives P G M x.m.st a w o r := by
  unfold cBuildSlice at hc
  split at hc <;> (try (cases hc; done))
  rename_i e hu
  split at hc <;> (try (cases hc; done))
  rename_i ie sz as hie hs has
  split at hc <;> (try (cases hc; done))
  rename_i z hz
  split at hc <;> cases hc
  rename_i hcond
  obtain ⟨hidx, hsmall, hzs⟩ := hcond
  obtain ⟨h0, ⟨i', hi1, hi2⟩, hsz⟩ := sizeT_some hs
  rw [hie] at hi1; cases hi1
  simp only [ev, Option.bind_eq_some_iff] at h
  obtain ⟨rows, hrows, h⟩ := h
  split at h <;> cases h
  rename_i hall
  have hall' : ∀ r ∈ rows, r.length = sz := fun r hr => by simpa using List.all_eq_true.1 hall r hr
  obtain ⟨l1, k1⟩ := mapM_some_iff hrows
  have hA : ARel M (as.map fun (p : Arg) => p.ev G x.sl) ((parts.map (·.2)).toList.map a.eval) := cArgs_rel hx has
  have hplen : parts.toList.length = len := by have := congrArg List.length hidx; simpa using this
  have hasl : as.length = len := by have := hA.1; simp at this; rw [← this]; simpa using hplen
  have hrl : rows.length = len := by rw [l1]; simpa using hasl
  let vs : List Value := (parts.map (·.2)).toList.map a.eval
  have hvsl : vs.length = len := by rw [hA.1]; simpa using hasl
  have hv : ∀ i (h1 : i < rows.length) (h2 : i < vs.length), vs[i].cells.size = sz ∧ ∀ j (hj : j < rows[i].length) (hj' : j < vs[i].cells.size), DRel M rows[i][j] vs[i].cells[j] := by
    intro i h1 h2
    have hrow := k1 i (by rw [← l1]; exact h1) h1
    have hlen := hall' rows[i] (List.getElem_mem h1)
    have := datCells_rel hrow (hA.2 i (by rw [← l1]; exact h1) h2) (by intro e; rw [e] at hlen; exact h0 hlen.symm)
    exact ⟨by rw [this.1, hlen], this.2⟩
  have hparts : (parts.map fun (i, x) => (i, a.eval x)).toList = (vs.zipIdx 0).map fun x => (x.2, x.1) := by
    apply List.ext_getElem
    · simp only [Array.toList_map, List.length_map, List.length_zipIdx]; rw [hvsl, hplen]
    · intro k g1 g2
      have hk : k < parts.toList.length := by simpa using g1
      simp only [Array.toList_map, List.getElem_map, List.getElem_zipIdx, Nat.zero_add]
      have hfst : parts.toList[k].1 = k := by
        have := List.getElem_map (f := fun x : Nat × Operand => x.1) (l := parts.toList) (i := k) (h := by simpa using hk)
        rw [← this]
        have h3 : (parts.toList.map fun x : Nat × Operand => x.1)[k]'(by simpa using hk) = (List.range len)[k]'(by simp; omega) := by congr 1
        rw [h3]; simp
      show (parts.toList[k].1, a.eval parts.toList[k].2) = (k, vs[k]'(by omega))
      rw [hfst]
      simp [vs]
  have fin : ∀ cells : Array Value, (Instr.buildSlice t len (parts.map fun (i, x) => (i, a.eval x))).run P w = .ok (.slice (some ⟨w.heap.size, 0, none⟩) len len) (w.alloc (.cells cells e)) →
      cells.size = len * sz → (∀ i (h1 : i < rows.length) (h2 : i < vs.length) j, j < sz → cells[i * sz + j]? = vs[i].cells[j]?) → Gives P G M x.m.st a w o (.full rows) := by
    intro cells hrun hcs hcell
    have hgr := Grows.alloc w cells e
    refine ⟨.slice (some ⟨w.heap.size, 0, none⟩) len len, w.alloc (.cells cells e), M.ext w.heap.size cells (len * sz), by simp [execOp, ho, hrun], ?_, hgr.same hx.w, hgr.frame hx.w (fun _ _ a b => ⟨a, b⟩)⟩
    have := AVRel.full (M := M.ext w.heap.size cells (len * sz)) rows w.heap.size sz (fun k => cells.getD k undef) hall'
      (fun k hk => by
        rw [hrl] at hk
        simp only [Mem.ext, if_true, if_pos hk]
        have : k < cells.size := by omega
        simp [this])
      (fun i j hi hj => by
        have hjs : j < sz := by rw [hall' _ (List.getElem_mem hi)] at hj; exact hj
        have hi2 : i < vs.length := by omega
        obtain ⟨g1, g2⟩ := hv i hi hi2
        have hc := hcell i hi hi2 j hjs
        have hj' : j < vs[i].cells.size := by omega
        rw [Array.getElem?_eq_getElem hj'] at hc
        have : cells.getD (i * sz + j) undef = vs[i].cells[j] := by simp [Array.getD_eq_getD_getElem?, hc]
        rw [this]
        exact (g2 j hj hj').mono (Grows.mle hx.w hgr.size))
    rw [hrl] at this
    exact this
  by_cases hl0 : len = 0
  · subst hl0
    refine fin #[] ?_ (by simp) (fun i h1 => by omega)
    have hp0 : parts = #[] := by rw [← Array.toList_eq_nil_iff]; exact List.eq_nil_of_length_eq_zero hplen
    subst hp0
    simp [Instr.buildSlice, run_underlying hu, hsz, Instr.fill, newRow]
    have : (Array.range 0).map (fun _ => (default : Value)) = #[] := Array.eq_empty_of_size_eq_zero (by simp)
    rw [this]
  · have hcs0 : ((Array.range (len * sz)).map (z.cells[· % z.cells.size]!)).size = len * sz := by simp
    obtain ⟨cells, hf, hcs, hk⟩ := Great.fill_dense (Nat.pos_of_ne_zero h0) vs 0 ((Array.range (len * sz)).map (z.cells[· % z.cells.size]!))
      (fun v hv' => by
        obtain ⟨i, hi, rfl⟩ := List.getElem_of_mem hv'
        exact (hv i (by omega) hi).1) (by rw [Nat.zero_add, hvsl, hcs0]; exact Nat.le_refl _)
    have hpos : ¬ len * ie.size = 0 := by rw [hi2]; exact Nat.mul_ne_zero hl0 h0
    have hrun := run_buildSlice (P := P) w t e len (parts.map fun (i, x) => (i, a.eval x)) cells ie z hu hie hz (by rw [hi2]; omega) hpos (by rw [hi2, hparts]; exact hf)
    refine fin cells hrun (by rw [hcs, hcs0]) (fun i h1 h2 j hj => ?_)
    have hlt : i * sz + j < (0 + vs.length) * sz := by
      have : (i + 1) * sz ≤ vs.length * sz := Nat.mul_le_mul_right _ h2
      rw [Nat.add_mul, Nat.one_mul] at this
      rw [Nat.zero_add]; omega
    rw [hk, if_pos ⟨by rw [Nat.zero_mul]; exact Nat.zero_le _, hlt⟩]
    have hdiv : (i * sz + j) / sz = i := by
      rw [Nat.add_comm, Nat.add_mul_div_right _ _ (Nat.pos_of_ne_zero h0), Nat.div_eq_of_lt hj, Nat.zero_add]
    have hmod : (i * sz + j) % sz = j := by rw [Nat.add_comm, Nat.add_mul_mod_self_right, Nat.mod_eq_of_lt hj]
    rw [hdiv, hmod, Nat.sub_zero, List.getElem?_eq_getElem h2, Option.bind_some]

theorem g_len {t : TypeId} {p : Operand} {c : Call} (hx : XRel D G M N x a w) (ho : o.op = .call c) (hcal : c.callee = .builtin .len) (ha : c.args = #[p]) (ht : c.argTypes = #[t])
    {g : Arg} (hg : cArg p = some g) {r : AV} (h : (∃ e, P.underlying t = some (.slice e)) ∧ ev G x.sl (.len g) = some r ∨ P.underlying t = some .string ∧ ev G x.sl (.lenS g) = some r) : Gives P G M x.m.st a w o r := by
  have h1 := cArg_rel hx hg
  rcases h with ⟨⟨e, hu⟩, h⟩ | ⟨hu, h⟩
  · simp only [ev] at h
    split at h
    · rename_i b off len cap e'
      cases h
      rw [e'] at h1
      exact .same hx.w (v := .int .i64 len) (by simp [execOp, ho, resolve, hcal, ha, ht, invoke, builtin, Builtin.len_, (inv_bsl h1).1, run_underlying hu, goInt]) (rel_int _ _)
    · simp only [Option.map_eq_some_iff] at h
      obtain ⟨rows, hrows, rfl⟩ := h
      obtain ⟨A, cap, hv, hcap, hR⟩ := inv_rows hrows h1
      exact .same hx.w (v := .int .i64 rows.length) (by simp [execOp, ho, resolve, hcal, ha, ht, invoke, builtin, Builtin.len_, hv, run_underlying hu, goInt]) (rel_int _ _)
  · simp only [ev] at h
    split at h <;> cases h
    rename_i s e'
    rw [e'] at h1
    exact .same hx.w (v := .int .i64 s.size) (by simp [execOp, ho, resolve, hcal, ha, ht, invoke, builtin, Builtin.len_, inv_str h1, run_underlying hu, goInt]) (rel_int _ _)

theorem mm_run (mx : Bool) : ∀ (l : List AV) (vs : List Value), ARel M l vs → ∀ (X : AV) (v : Value), AVRel M X v → ∀ r, l.foldlM (mm2 mx) X = some r →
    ∃ u, (vs.foldlM (if mx = true then Builtin.max2 else Builtin.min2) v).run P w = .ok u w ∧ AVRel M r u
  | [], vs, hA, X, v, hX, r, h => by
    have : vs = [] := List.eq_nil_of_length_eq_zero hA.1
    subst this
    simp at h; subst h
    exact ⟨v, rfl, hX⟩
  | y :: l, [], hA, _, _, _, _, _ => by simp [ARel] at hA
  | y :: l, u :: vs, hA, X, v, hX, r, h => by
    simp only [List.foldlM_cons, Option.bind_eq_bind, Option.bind_eq_some_iff] at h
    obtain ⟨z, hz, h⟩ := h
    have hu : AVRel M y u := hA.2 0 (by simp) (by simp)
    have hA' : ARel M l vs := ⟨by simpa using hA.1, fun i a b => hA.2 (i + 1) (by simpa using a) (by simpa using b)⟩
    unfold mm2 at hz
    split at hz <;> (try (cases hz; done))
    rename_i k p k' q
    cases hz
    rw [inv_int hX, inv_int hu]
    obtain ⟨u', e1, e2⟩ := mm_run mx l vs hA' _ (.int k (if mx = true then (if q > p then q else p) else (if q < p then q else p))) (rel_int _ _) r h
    refine ⟨u', ?_, e2⟩
    rw [List.foldlM_cons, Sem.run_bind]
    cases mx
    · have : ((if false = true then Builtin.max2 else Builtin.min2) (.int k p) (.int k' q)).run P w = .ok (.int k (if q < p then q else p)) w := rfl
      rw [this]
      exact e1
    · have : ((if true = true then Builtin.max2 else Builtin.min2) (.int k p) (.int k' q)).run P w = .ok (.int k (if q > p then q else p)) w := rfl
      rw [this]
      exact e1

theorem g_minmax {mx : Bool} {p : Operand} {rest : List Operand} {c : Call} (hx : XRel D G M N x a w) (ho : o.op = .call c) (hcal : c.callee = .builtin (if mx = true then .max else .min)) (ha : c.args.toList = p :: rest)
    {g : Arg} {gs : List Arg} (hg : cArg p = some g) (hgs : rest.mapM cArg = some gs) {r : AV} (h : ev G x.sl (.minmax mx g gs) = some r) : Gives P G M x.m.st a w o r := by
  have h1 := cArg_rel hx hg
  have h2 := cArgs_rel hx hgs
  simp only [ev] at h
  obtain ⟨u, e1, e2⟩ := mm_run (P := P) (w := w) mx _ _ h2 _ _ h1 r h
  have hargs : c.args.toList.map a.eval = a.eval p :: rest.map a.eval := by simp [ha]
  refine .same hx.w (v := u) ?_ e2
  cases mx
  · simp only [Bool.false_eq_true, if_false] at hcal e1
    simp [execOp, ho, resolve, hcal, invoke, builtin, Builtin.min_, hargs, e1]
  · simp only [if_true] at hcal e1
    simp [execOp, ho, resolve, hcal, invoke, builtin, Builtin.max_, hargs, e1]

end
end Go.Pv
