/- Structs and slices that are written out; lengths; function values. No condition. -/
import Derived.Test.YtdggkhnelmonkaaDoorP8
import Derived.Great.BuildSlice
namespace Go.Pv

section
variable {D : Fr} {E : PE} {P : Program} {G : Glob} {M : Mem} {N : Nat} {x : X} {a : Act} {w : World} {o : Oper}

theorem fold_cells (off : Nat) (v : Array Value) (cs : Array Value) (h : off + v.size ≤ cs.size) :
    (v.zipIdx.foldl (fun cs (c, j) => cs.setIfInBounds (off + j) c) cs).toList = cs.toList.take off ++ v.toList ++ cs.toList.drop (off + v.size) := by
  obtain ⟨h1, h2⟩ := Great.foldl_set off v.toList 0 cs
  have e : v.zipIdx.foldl (fun cs (x : Value × Nat) => cs.setIfInBounds (off + x.2) x.1) cs = (v.toList.zipIdx 0).foldl (fun cs (x : Value × Nat) => cs.setIfInBounds (off + x.2) x.1) cs := by
    rw [← Array.foldl_toList, Array.toList_zipIdx]
  apply List.ext_getElem?
  intro k
  rw [Array.getElem?_toList]
  show (v.zipIdx.foldl (fun cs (x : Value × Nat) => cs.setIfInBounds (off + x.2) x.1) cs)[k]? = _
  rw [e, h2 k]
  simp only [Nat.add_zero, Array.length_toList]
  by_cases h3 : k < off
  · rw [if_neg (by omega), List.append_assoc, List.getElem?_append_left (by simp; omega), List.getElem?_take, if_pos h3, Array.getElem?_toList]
  · by_cases h4 : k < off + v.size
    · rw [if_pos (by omega), List.append_assoc, List.getElem?_append_right (by simp; omega), List.getElem?_append_left (by simp; omega)]
      have : min off cs.toList.length = off := by simp; omega
      rw [List.length_take, this]
    · rw [if_neg (by omega), List.getElem?_append_right (by simp; omega), List.getElem?_drop]
      have : off + v.size + (k - (List.take off cs.toList ++ v.toList).length) = k := by simp; omega
      rw [this, Array.getElem?_toList]

theorem fill_rel (place : Nat → Option (Nat × Nat)) : ∀ (lp : List (Nat × Nat × AV)) (lr : List (Nat × Value)) (zs : List AV) (cs : Array Value) (out : List AV), ARel M zs cs.toList →
    lr.length = lp.length → (∀ i (h : i < lp.length) (h' : i < lr.length), place lr[i].1 = some (lp[i].1, lp[i].2.1) ∧ lp[i].2.1 ≠ 0 ∧ AVRel M lp[i].2.2 lr[i].2) →
    fillCells zs lp = some out → ∃ cs', Instr.fill place cs lr = some cs' ∧ ARel M out cs'.toList
  | [], [], zs, cs, out, hA, _, _, h => by cases h; exact ⟨cs, rfl, hA⟩
  | [], _ :: _, _, _, _, _, hl, _, _ => by simp at hl
  | _ :: _, [], _, _, _, _, hl, _, _ => by simp at hl
  | (off, sz, y) :: lp, (i, v) :: lr, zs, cs, out, hA, hl, hp, h => by
    obtain ⟨h1, h2, h3⟩ := hp 0 (by simp) (by simp)
    simp only [List.getElem_cons_zero] at h1 h2 h3
    unfold fillCells at h
    split at h
    · rename_i hc
      have hne : y.cells ≠ [] := by intro e; rw [e] at hc; exact h2 hc.1.symm
      have hR := cells_rel h3 hne
      have hsz : v.cells.size = sz := by rw [← Array.length_toList, hR.1]; exact hc.1
      have hcs : off + v.cells.size ≤ cs.size := by rw [hsz, ← Array.length_toList, hA.1]; exact hc.2
      have hnew : ARel M (zs.take off ++ y.cells ++ zs.drop (off + sz)) (v.cells.zipIdx.foldl (fun cs (c, j) => cs.setIfInBounds (off + j) c) cs).toList := by
        rw [fold_cells off v.cells cs hcs, hsz]
        exact ((hA.take off).append hR).append (hA.drop (off + sz))
      obtain ⟨cs', e1, e2⟩ := fill_rel place lp lr _ _ out hnew (by simpa using hl)
        (fun i h h' => by have := hp (i + 1) (by simpa using h) (by simpa using h'); simpa using this) h
      refine ⟨cs', ?_, e2⟩
      unfold Instr.fill
      simp only [h1]
      rw [if_neg (by simp; omega)]
      exact e1
    · cases h

theorem cCells_rel {z : Value} {zs : List AV} (h : cCells z = some zs) : ARel M zs z.cells.toList := by
  obtain ⟨h1, h2⟩ := mapM_some_iff h
  exact ⟨h1.symm, fun i a b => cVal_rel (h2 i b a)⟩

theorem cBuildParts_rel (hx : XRel D G M N x a w) {fs : Array Field} : ∀ {l : List (Nat × Operand)} {ps : List (Nat × Nat × Arg)}, cBuildParts P fs l = some ps →
    ps.length = l.length ∧ ∀ i (h : i < ps.length) (h' : i < l.length), (∃ fd, fs[l[i].1]? = some fd ∧ fd.offset = ps[i].1 ∧ sizeT P fd.type = some ps[i].2.1) ∧ AVRel M (ps[i].2.2.ev G x.sl) (a.eval l[i].2)
  | [], ps, h => by cases h; exact ⟨rfl, fun i h => by simp at h⟩
  | (j, q) :: l, ps, h => by
    unfold cBuildParts at h
    split at h <;> (try (cases h; done))
    rename_i fd g r hf hg hr
    simp only [Option.map_eq_some_iff] at h
    obtain ⟨sz, hs, rfl⟩ := h
    obtain ⟨e1, e2⟩ := cBuildParts_rel hx hr
    refine ⟨by simp [e1], fun i h h' => ?_⟩
    cases i with
    | zero => exact ⟨⟨fd, hf, rfl, hs⟩, cArg_rel hx hg⟩
    | succ i => exact e2 i (by simpa using h) (by simpa using h')
theorem cBuildPartsA_rel (hx : XRel D G M N x a w) {sz : Nat} : ∀ {l : List (Nat × Operand)} {ps : List (Nat × Nat × Arg)}, cBuildPartsA sz l = some ps →
    ps.length = l.length ∧ ∀ i (h : i < ps.length) (h' : i < l.length), (ps[i].1 = l[i].1 * sz ∧ ps[i].2.1 = sz) ∧ AVRel M (ps[i].2.2.ev G x.sl) (a.eval l[i].2)
  | [], ps, h => by cases h; exact ⟨rfl, fun i h => by simp at h⟩
  | (j, q) :: l, ps, h => by
    unfold cBuildPartsA at h
    split at h <;> cases h
    rename_i g r hg hr
    obtain ⟨e1, e2⟩ := cBuildPartsA_rel hx hr
    refine ⟨by simp [e1], fun i h h' => ?_⟩
    cases i with
    | zero => exact ⟨⟨rfl, rfl⟩, cArg_rel hx hg⟩
    | succ i => exact e2 i (by simpa using h) (by simpa using h')

theorem g_build {t : TypeId} {parts : Array (Nat × Operand)} (hx : XRel D G M N x a w) (ho : o.op = .build t parts) {po : POp} (hc : cBuild P t parts = some po) {r : AV} (h : ev G x.sl po = some r) :
    Gives P G M x.m.st a w o r := by
  unfold cBuild at hc
  have hpl : (parts.map fun (i, x) => (i, a.eval x)).toList = parts.toList.map fun (i, x) => (i, a.eval x) := by simp
  split at hc <;> (try (cases hc; done))
  · rename_i z fs hz hu
    split at hc <;> cases hc
    rename_i zs ps places hzs hps hpc
    simp only [ev, Option.map_eq_some_iff] at h
    obtain ⟨out, hf, rfl⟩ := h
    obtain ⟨e1, e2⟩ := cBuildParts_rel hx hps
    obtain ⟨hpl1, hpl2⟩ := mapM_some_iff hpc
    obtain ⟨cs', e3, e4⟩ := fill_rel (places.toArray[·]?) _ (parts.toList.map fun (i, x) => (i, a.eval x)) zs z.cells out (cCells_rel hzs) (by simp [e1])
      (fun i h h' => by
        simp only [List.length_map] at h h'
        obtain ⟨⟨fd, f1, f2, f3⟩, f4⟩ := e2 i h h'
        simp only [List.getElem_map]
        obtain ⟨h0, ⟨inf, f5, f6⟩, _⟩ := sizeT_some f3
        refine ⟨?_, h0, f4⟩
        obtain ⟨hlt, hfd⟩ := Array.getElem?_eq_some_iff.1 f1
        have := hpl2 (parts.toList[i].1) (by simpa using hlt) (by rw [hpl1]; simpa using hlt)
        have e3 : fs.toList[parts.toList[i].1]'(by simpa using hlt) = fd := hfd
        rw [e3, f5, Option.map_some, Option.some.injEq] at this
        rw [List.getElem?_toArray, List.getElem?_eq_getElem (by rw [hpl1]; simpa using hlt), ← this, f2, f6]) hf
    have hb : P.built t (parts.map fun (i, x) => (i, a.eval x)).toList = some cs' := by
      rw [hpl]
      unfold Program.built
      cases hi : P.info? t with
      | none => simp [hi] at hz
      | some it =>
        simp only [hi, Option.bind_some] at hz
        simp only [hu, hz, hpc]
        exact e3
    exact .same hx.w (by simp [execOp, ho, run_build w t _ cs' hb]) (.agg _ cs'.toList e4.1 e4.2)
  · rename_i z n e hz hu
    split at hc <;> (try (cases hc; done))
    rename_i zs sz hzs hs
    simp only [Option.map_eq_some_iff] at hc
    obtain ⟨ps, hps, rfl⟩ := hc
    simp only [ev, Option.map_eq_some_iff] at h
    obtain ⟨out, hf, rfl⟩ := h
    obtain ⟨e1, e2⟩ := cBuildPartsA_rel hx hps
    obtain ⟨h0, ⟨ie, f5, f6⟩, _⟩ := sizeT_some hs
    obtain ⟨cs', e3, e4⟩ := fill_rel (fun i => some (i * sz, sz)) _ (parts.toList.map fun (i, x) => (i, a.eval x)) zs z.cells out (cCells_rel hzs) (by simp [e1])
      (fun i h h' => by
        simp only [List.length_map] at h h'
        obtain ⟨⟨g1, g2⟩, g3⟩ := e2 i h h'
        simp only [List.getElem_map]
        exact ⟨by rw [g1, g2], by rw [g2]; exact h0, g3⟩) hf
    have hb : P.built t (parts.map fun (i, x) => (i, a.eval x)).toList = some cs' := by
      rw [hpl]
      unfold Program.built
      cases hi : P.info? t with
      | none => simp [hi] at hz
      | some it =>
        simp only [hi, Option.bind_some] at hz
        simp only [hu, hz, f5, f6]
        exact e3
    exact .same hx.w (by simp [execOp, ho, run_build w t _ cs' hb]) (.agg _ cs'.toList e4.1 e4.2)

theorem g_mkfn {f : FuncId} {first captured : Array Operand} (hx : XRel D G M N x a w) (ho : o.op = .makeFunc (.func f) first captured) {ga gb : List Arg} (h1 : cArgs first = some ga) (h2 : cArgs captured = some gb)
    {r : AV} (h : ev G x.sl (.mkfn f ga gb) = some r) : Gives P G M x.m.st a w o r := by
  simp only [ev, Option.bind_eq_some_iff, Option.map_eq_some_iff] at h
  obtain ⟨fs, hfs, cs, hcs, rfl⟩ := h
  have r1 := cArgs_rel hx h1
  have r2 := cArgs_rel hx h2
  obtain ⟨l1, k1⟩ := mapM_some_iff hfs
  obtain ⟨l2, k2⟩ := mapM_some_iff hcs
  refine .same hx.w (v := .func (.func f) (first.toList.map a.eval).toArray (captured.toList.map a.eval).toArray) ?_ (.d _ _ (.fn f fs cs _ _ ?_ ?_ (fun i a b => ?_) (fun i a b => ?_)))
  · have e1 : first.map a.eval = (first.toList.map a.eval).toArray := by rw [← Array.toList_map]
    have e2 : captured.map a.eval = (captured.toList.map a.eval).toArray := by rw [← Array.toList_map]
    rw [← e1, ← e2]
    simp [execOp, ho, Instr.makeFunc]
  · rw [r1.1, ← l1]
  · rw [r2.1, ← l2]
  · exact dat_rel (k1 i (by rw [← l1]; exact a) a) (r1.2 i (by rw [← l1]; exact a) b)
  · exact dat_rel (k2 i (by rw [← l2]; exact a) a) (r2.2 i (by rw [← l2]; exact a) b)

theorem g_mki {t : TypeId} {p : Operand} (hx : XRel D G M N x a w) (ho : o.op = .makeInterface t p) {d : TypeDesc} (hu : P.underlying t = some d) (hd : ∀ m, d ≠ .interface m) {g : Arg} (hg : cArg p = some g)
    {r : AV} (h : ev G x.sl (.mki t g) = some r) : Gives P G M x.m.st a w o r := by
  have h1 := cArg_rel hx hg
  have run : (execOp a.eval o).run P w = .ok (.value (.iface t (a.eval p))) w := by
    simp only [execOp, ho, Instr.makeInterface, Sem.run_bind, run_underlying hu, Result.andThen_ok]
    cases d <;> first | rfl | exact absurd rfl (hd _)
  simp only [ev] at h
  split at h
  · rename_i cells e
    rw [e] at h1
    simp only [Option.map_eq_some_iff] at h
    obtain ⟨cs, hcs, rfl⟩ := h
    obtain ⟨vs, hv, hA⟩ := inv_agg h1
    obtain ⟨l1, k1⟩ := mapM_some_iff hcs
    rw [hv] at run
    exact .same hx.w run (.d _ _ (.ifa t cs vs (by rw [hA.1]; exact l1.symm) (fun i a b => dat_rel (k1 i (by rw [l1] at a; exact a) a) (hA.2 i (by rw [l1] at a; exact a) b))))
  · simp only [Option.map_eq_some_iff] at h
    obtain ⟨y, hy, rfl⟩ := h
    exact .same hx.w run (.d _ _ (.ifc t y _ (dat_rel hy h1)))

end
end Go.Pv
