/- Calls by value; every operation, sound. No condition. -/
import Derived.Test.YtdggkhnelmonkaaDoorP11
import Derived.Laws.Externs
import Derived.Orders
import Derived.Tactics
namespace Go.Pv

section
variable {D : Fr} {E : PE} {P : Program} {G : Glob} {M : Mem} {N : Nat} {x : X} {a : Act} {w : World} {o : Oper}

/-- What a panic out of an operation is to bring. -/
def QeOk (G : Glob) (E : PE) (M : Mem) (st : St) (a : Act) (w : World) (Qe : Exit → Act → World → Prop) : Prop :=
  ∀ v r st' M' w', WRel G M' st' w' → AVRel M' r v → Frame st st' M M' w w' → E.E r st' → Qe (.panic [{ v := v, recovered := false }]) a w'

theorem run_callFunc_ent {f : FuncId} (h : entered P f = true) (args : Array Value) (w : World) : (callFunc f args).run P w = .ok (.enter f args) w := by
  unfold entered at h
  split at h
  · rename_i fn hf
    rw [Bool.and_eq_true] at h
    obtain ⟨h1, h2⟩ := h
    have h1' : (fn.name == "runtime.NumGoroutine") = false := by simpa using h1
    obtain ⟨c, hc⟩ := Option.isSome_iff_exists.1 h2
    simp [callFunc, hf, hc]
    simpa using h1
  · cases h

theorem call_ci {f : FuncId} {args : Array Value} {as : List AV} (hx : XRel D G M N x a w) (hrun : entered P f = true → (execOp a.eval o).run P w = .ok (.enter f args) w) (hA : ARel M as args.toList)
    {Q : AV → Mx → Prop} {Qe : Exit → Act → World → Prop} (hE : QeOk G E M x.m.st a w Qe) (h : (NF.ci f as).step (PCallsE P G E) x.m Q) : o.wp P a w (KPost G M x a w o Q) Qe := by
  obtain ⟨R, hC, ⟨r0, st0, hr0⟩, hq⟩ := h
  rcases hC with ⟨hent, hc⟩ | ⟨_, hno, _⟩
  rotate_left
  · exact absurd hr0 (hno _ _)
  unfold Oper.wp
  rw [hrun hent, Oper.upon_enter]
  refine (hc M w args hx.w hA).mono ?_
  rintro e w' (⟨v, r, st', M', rfl, hW, hr, hF, hR⟩ | ⟨v, r, st', M', rfl, hW, hr, hF, hEr⟩)
  · exact ⟨v, r, _, M', rfl, hW, hr, hF, (hq r st' hR).2⟩
  · exact hE v r st' M' w' hW hr hF hEr

theorem call_c0 {f : FuncId} {args : Array Value} {as : List AV} (hx : XRel D G M N x a w) (hrun : entered P f = true → (execOp a.eval o).run P w = .ok (.enter f args) w) (hA : ARel M as args.toList)
    {Q : AV → Mx → Prop} {Qe : Exit → Act → World → Prop} (hE : QeOk G E M x.m.st a w Qe) (h : (NF.c0 f as).step (PCallsE P G E) x.m Q) : o.wp P a w (KPost G M x a w o Q) Qe := by
  obtain ⟨R, hC, hsat, hq⟩ := h
  obtain ⟨r0, st0, hr0, _⟩ := hsat [] (fun _ h => by cases h)
  rcases hC with ⟨hent, hc⟩ | ⟨_, hno, _⟩
  rotate_left
  · exact absurd hr0 (hno _ _)
  unfold Oper.wp
  rw [hrun hent, Oper.upon_enter]
  refine (hc M w args hx.w hA).mono ?_
  rintro e w' (⟨v, r, st', M', rfl, hW, hr, hF, hR⟩ | ⟨v, r, st', M', rfl, hW, hr, hF, hEr⟩)
  · exact ⟨v, r, _, M', rfl, hW, hr, hF, hq r st' hR⟩
  · exact hE v r st' M' w' hW hr hF hEr

theorem call_cp {f : FuncId} {args : Array Value} {as : List AV} (hx : XRel D G M N x a w) (hrun : entered P f = true → (execOp a.eval o).run P w = .ok (.enter f args) w) (hA : ARel M as args.toList)
    {Q : AV → Mx → Prop} {Qe : Exit → Act → World → Prop} (hE : QeOk G E M x.m.st a w Qe) (h : (NF.cp f as).step (PCallsE P G E) x.m Q) : o.wp P a w (KPost G M x a w o Q) Qe := by
  obtain ⟨R, hC, ⟨r0, hr0⟩, hq⟩ := h
  rcases hC with ⟨hent, hc⟩ | ⟨_, hno, _⟩
  rotate_left
  · exact absurd ⟨rfl, hr0⟩ (hno r0 x.m.st)
  unfold Oper.wp
  rw [hrun hent, Oper.upon_enter]
  refine (hc M w args hx.w hA).mono ?_
  rintro e w' (⟨v, r, st', M', rfl, hW, hr, hF, rfl, hR⟩ | ⟨v, r, st', M', rfl, hW, hr, hF, hEr⟩)
  · exact ⟨v, r, x.m, M', rfl, hW, hr, hF, hq r hR⟩
  · exact hE v r st' M' w' hW hr hF hEr

theorem weakArgs_rel {l : List AV} {vs : List Value} (h : ARel M l vs) : ARel M (l.map AV.weak) vs := by
  refine ⟨by simp [h.1], fun i h1 h2 => ?_⟩
  simp only [List.getElem_map]
  exact weak_rel (h.2 i (by simpa using h1) h2)

theorem inv_fn {f : FuncId} {as bs : List Dat} {v : Value} (h : AVRel M (.d (.fn f as bs)) v) : ∃ fs cs : List Value, v = .func (.func f) fs.toArray cs.toArray ∧ ARel M (as.map .d) fs ∧ ARel M (bs.map .d) cs := by
  cases h with
  | d _ _ h =>
    cases h with
    | fn _ _ _ fs cs hf hc h1 h2 =>
      exact ⟨fs, cs, rfl, ⟨by simp [hf], fun i a b => by simp only [List.getElem_map]; exact .d _ _ (h1 i (by simpa using a) b)⟩, ⟨by simp [hc], fun i a b => by simp only [List.getElem_map]; exact .d _ _ (h2 i (by simpa using a) b)⟩⟩

def POp.isN : POp → Bool
  | .mkmap .. | .mins .. | .mget .. => false
  | .load .. | .box .. | .alloc .. | .make .. | .store .. | .app .. | .appS .. | .call .. | .callp .. | .callv .. | .callvp .. | .isNilS .. | .call0 .. | .callv0 .. | .storeo .. | .appB .. | .copy .. | .clr .. | .callE .. => false
  | _ => true
theorem nf_isN {po : POp} (h : po.isN = true) (G : Glob) (s : Slots) : nf G s po = .n (ev G s po) := by cases po <;> first | rfl | cases h

theorem Gives.wpN {po : POp} (hN : po.isN = true) {Q : AV → Mx → Prop} {Qe : Exit → Act → World → Prop} (h : (nf G x.sl po).step (PCallsE P G E) x.m Q)
    (hg : ∀ r, ev G x.sl po = some r → Gives P G M x.m.st a w o r) : o.wp P a w (KPost G M x a w o Q) Qe := by
  rw [nf_isN hN] at h
  obtain ⟨r, hr, hq⟩ := h
  exact (hg r hr).wp hq

theorem isN_un {op : UnOp} {p : Operand} {po : POp} (h : cUn op p = some po) : po.isN = true := by
  unfold cUn at h
  split at h <;> (try (cases h; done)) <;> simp only [Option.map_eq_some_iff] at h <;> obtain ⟨g, _, rfl⟩ := h <;> rfl
theorem isN_conv {src dst : TypeId} {p : Operand} {po : POp} (h : cConv P src dst p = some po) : po.isN = true := by
  unfold cConv at h
  split at h <;> (try (cases h; done)) <;> (try split at h) <;> (try (cases h; done)) <;> simp only [Option.map_eq_some_iff] at h <;> obtain ⟨g, _, rfl⟩ := h <;> rfl
theorem isN_faddr {t : TypeId} {p : Operand} {f : Nat} {po : POp} (h : cFieldAddr P t p f = some po) : po.isN = true := by
  unfold cFieldAddr at h
  split at h <;> (try (cases h; done)) <;> split at h <;> (try (cases h; done)) <;> split at h <;> (try (cases h; done))
  simp only [Option.map_eq_some_iff] at h; obtain ⟨g, _, rfl⟩ := h; rfl
theorem isN_field {t : TypeId} {p : Operand} {f : Nat} {po : POp} (h : cField P t p f = some po) : po.isN = true := by
  unfold cField at h
  split at h <;> (try (cases h; done)) <;> split at h <;> (try (cases h; done)) <;> split at h <;> (try (cases h; done))
  simp only [Option.map_eq_some_iff] at h; obtain ⟨g, _, rfl⟩ := h; rfl
theorem isN_iaddr {t : TypeId} {p q : Operand} {po : POp} (h : cIndexAddr P t p q = some po) : po.isN = true := by
  unfold cIndexAddr at h
  split at h <;> (try (cases h; done)) <;> split at h <;> cases h <;> rfl
theorem isN_index {t : TypeId} {p q : Operand} {po : POp} (h : cIndex P t p q = some po) : po.isN = true := by
  unfold cIndex at h
  split at h <;> (try (cases h; done)) <;> split at h <;> cases h <;> rfl
theorem isN_slice {t : TypeId} {p : Operand} {lo hi mx : Option Operand} {po : POp} (h : cSlice P t p lo hi mx = some po) : po.isN = true := by
  unfold cSlice at h
  split at h <;> (try (cases h; done))
  split at h <;> (try (cases h; done)) <;> first
    | (simp only [Option.map_eq_some_iff] at h; obtain ⟨g, _, rfl⟩ := h; rfl)
    | (cases h; rfl)
theorem isN_build {t : TypeId} {parts : Array (Nat × Operand)} {po : POp} (h : cBuild P t parts = some po) : po.isN = true := by
  unfold cBuild at h
  split at h <;> (try (cases h; done)) <;> split at h <;> (try (cases h; done)) <;> first
    | (simp only [Option.map_eq_some_iff] at h; obtain ⟨g, _, rfl⟩ := h; rfl)
    | (cases h; rfl)
theorem isN_bsl {t : TypeId} {len : Nat} {parts : Array (Nat × Operand)} {po : POp} (h : cBuildSlice P t len parts = some po) : po.isN = true := by
  unfold cBuildSlice at h
  split at h <;> (try (cases h; done)) <;> split at h <;> (try (cases h; done)) <;> split at h <;> (try (cases h; done)) <;> split at h <;> cases h <;> rfl

theorem g_binop {op : BinOp} {t ty : TypeId} {p q : Operand} (hx : XRel D G M N x a w) (ho : o.op = .binOp op t p q ty) {po : POp} (hc : cBin P op t p q = some po) {Q : AV → Mx → Prop} {Qe : Exit → Act → World → Prop}
    (h : (nf G x.sl po).step (PCallsE P G E) x.m Q) : o.wp P a w (KPost G M x a w o Q) Qe := by
  have gen : ∀ gp gq, cArg p = some gp → cArg q = some gq → po = .bin op gp gq → o.wp P a w (KPost G M x a w o Q) Qe := by
    rintro gp gq hp hq rfl
    exact Gives.wpN rfl h fun r hr => g_bin hx ho hp hq hr
  unfold cBin at hc
  split at hc
  · rename_i kd hk
    split at hc <;> (try (cases hc; done))
    rename_i hop
    simp only [Option.map_eq_some_iff] at hc
    obtain ⟨g, hg, rfl⟩ := hc
    by_cases hkd : kd = 1
    · subst hkd
      rw [if_pos rfl] at h
      simp only [nf] at h
      split at h
      · rename_i e
        obtain ⟨b, hb⟩ := g_isNilE hx ho hk hop hg e
        exact hb.wp (h b)
      · obtain ⟨r, hr, hq⟩ := h
        simp only [Option.map_eq_some_iff] at hr
        obtain ⟨b, hb, rfl⟩ := hr
        exact (g_isNil hx ho hk hop hg hb).wp hq
    · rw [if_neg hkd] at h
      refine Gives.wpN rfl h fun r hr => ?_
      simp only [ev, Option.map_eq_some_iff] at hr
      obtain ⟨b, hb, rfl⟩ := hr
      exact g_isNil hx ho hk hop hg hb
  · split at hc <;> (try (cases hc; done))
    · rename_i hu
      split at hc <;> (try (cases hc; done))
      rename_i hop
      split at hc <;> cases hc
      rename_i gp gq hp hq
      refine Gives.wpN rfl h fun r hr => ?_
      simp only [ev] at hr
      split at hr <;> cases hr
      rename_i b c hb hc
      exact g_eqB hx ho hu hop hp hq hb hc
    iterate 3
      · split at hc <;> cases hc
        rename_i gp gq hp hq
        exact gen _ _ hp hq rfl
    all_goals
      split at hc <;> (try (cases hc; done))
      rename_i hop
      split at hc <;> cases hc
      rename_i gp gq ks hp hq hpl
      refine Gives.wpN rfl h fun r hr => ?_
      simp only [ev] at hr
      split at hr <;> (try (cases hr; done))
      rename_i xs ys hb hc
      simp only [Option.map_eq_some_iff] at hr
      obtain ⟨r', hr', rfl⟩ := hr
      exact g_eqAgg hx ho hop hpl hp hq hb hc hr'

theorem str_src (s : ByteArray) : Src P w 1 (.string s) (rowsOfStr s).length (s.data.toList.map fun b => Value.int .u8 b.toNat) ∧ RowCells M 1 (rowsOfStr s) (s.data.toList.map fun b => Value.int .u8 b.toNat) := by
  have hl : (rowsOfStr s).length = s.size := by simp [rowsOfStr]
  refine ⟨⟨fun w' => by simp [Builtin.lenOf, hl], fun w' _ => ?_, by simp [hl]⟩, ⟨by simp [hl], fun i j hi hj hj' h => ?_⟩⟩
  · simp only [Builtin.firstCells, hl]
    have : s.extract 0 s.size = s := by simp
    rw [this]
    simp
    apply Array.ext'
    simp
  · obtain rfl : j = 0 := by omega
    simp only [Nat.mul_one, Nat.add_zero, rowsOfStr, List.getElem_map, List.getElem_cons_zero]
    exact .int _ _

theorem g_app {t u : TypeId} {p q : Operand} {c : Call} (hx : XRel D G M N x a w) (ho : o.op = .call c) (hcal : c.callee = .builtin .append) (ha : c.args.toList = [p, q]) (ht : c.argTypes.toList = [t, u])
    {po : POp} (hc : cBuiltin P .append c.argTypes c.args = some po) {Q : AV → Mx → Prop} {Qe : Exit → Act → World → Prop}
    (h : (nf G x.sl po).step (PCallsE P G E) x.m Q) : o.wp P a w (KPost G M x a w o Q) Qe := by
  have ha' : c.args = #[p, q] := by rw [← Array.toArray_toList (xs := c.args), ha]
  have ht' : c.argTypes = #[t, u] := by rw [← Array.toArray_toList (xs := c.argTypes), ht]
  unfold cBuiltin at hc
  rw [ha, ht] at hc
  simp only at hc
  split at hc <;> (try (cases hc; done))
  rename_i e hu
  split at hc <;> (try (cases hc; done))
  rename_i ie sz ga gb hie hs hga hgb
  split at hc <;> (try (cases hc; done))
  rename_i z hz
  split at hc <;> (try (cases hc; done))
  rename_i hcond
  obtain ⟨hzs, hby⟩ := hcond
  obtain ⟨h0, ⟨i', hi1, hi2⟩, hsz⟩ := sizeT_some hs
  rw [hie] at hi1; cases hi1
  subst hi2
  have h1 := cArg_rel hx hga
  have h2 := cArg_rel hx hgb
  have fin : ∀ {r : AV} {v' : Value} {w' : World} {m' : Mx} {M' : Mem}, (Builtin.append_ #[t, u] o.type #[a.eval p, a.eval q]).run P w = .ok v' w' → WRel G M' m'.st w' → AVRel M' r v' → Frame x.m.st m'.st M M' w w' → Q r m' →
      o.wp P a w (KPost G M x a w o Q) Qe := by
    intro r v' w' m' M' e1 e2 e3 e4 e5
    exact wp_value (v := v') (by simp [execOp, ho, resolve, hcal, ha', ht', invoke, builtin, e1]) e2 e3 e4 e5
  split at hc <;> (try (cases hc; done))
  · rename_i e' hu'
    split at hc <;> cases hc
    rename_i he
    subst he
    simp only [nf] at h
    split at h <;> (try (exact h.elim))
    rename_i news hnews
    obtain ⟨A, cap, hv, hcap, hR⟩ := inv_rows hnews h2
    have hns : ∀ r ∈ news, r.length = ie.size := h.1
    obtain ⟨cs, hRC, hcs⟩ := rowsAt_cells (P := P) hx.w h0 hns (cap := cap) hR
    rw [hv] at fin
    obtain ⟨r, v', w', m', M', e1, e2, e3, e4, e5⟩ := app_core (ty := o.type) hu hu' (.inl rfl) hie hz hzs h0 hby hx.w ⟨fun w' => by simp [Builtin.lenOf], hcs, hRC.1⟩ hRC h1 rfl h
    exact fin e1 e2 e3 e4 e5
  · rename_i hu'
    split at hc <;> cases hc
    rename_i hone
    simp only [nf] at h
    split at h <;> (try (exact h.elim))
    rename_i s hs'
    rw [hs'] at h2
    rw [inv_str h2] at fin
    obtain ⟨s1, s2⟩ := str_src (P := P) (w := w) (M := M) s
    have h' : (NF.a ie.size ie.bytes (ga.ev G x.sl) (rowsOfStr s)).step (PCallsE P G E) x.m Q := by rw [hone.1, hone.2]; exact h
    rw [← hone.1] at s1 s2
    obtain ⟨r, v', w', m', M', e1, e2, e3, e4, e5⟩ := app_core (ty := o.type) hu hu' (.inr rfl) hie hz hzs h0 hby hx.w s1 s2 h1 rfl h'
    exact fin e1 e2 e3 e4 e5

theorem bsl_src {st : St} (hW : WRel G M st w) {sz : Nat} {b off n cap : Nat} {cells : List AV} (hb : st.box b = some cells) {k : Nat} (hfit : ((cells.drop off).take k).length = k) (hsc : ((cells.drop off).take k).all AV.sc = true) :
    ∃ cs : List Value, ARel M ((cells.drop off).take k) cs ∧ (∀ v ∈ cs, v.oneCell' = true) ∧ ∀ m, m * sz = k → (Builtin.firstCells sz m (.slice (some ⟨b, off, none⟩) n cap)).run P w = .ok cs.toArray w := by
  obtain ⟨t', cs, h1, h2, h3⟩ := box_cells hW hb
  have hA := (h2.drop off).take k
  refine ⟨_, hA, sc_list hsc hA, fun m hm => ?_⟩
  subst hm
  refine run_firstCells_some (P := P) w sz m ⟨b, off, none⟩ n cap _ (by rw [hA.1, hfit]) (fun j v hj => ?_)
  rw [add_mid, cell_of_row _ _ _ _ _ _ h1]
  rw [List.getElem?_take] at hj
  split at hj
  · rw [List.getElem?_drop] at hj
    simpa using hj
  · cases hj

theorem rowcells_rel {sz : Nat} {rows : List (List Dat)} (hs : ∀ r ∈ rows, r.length = sz) {cs : List Value} (h : RowCells M sz rows cs) : ARel M (rows.flatten.map .d) cs := by
  induction rows generalizing cs with
  | nil =>
    have : cs = [] := List.eq_nil_of_length_eq_zero (by simpa using h.1)
    subst this
    exact .nil _
  | cons r rows ih =>
    have hr := hs r (by simp)
    have hl : cs.length = sz + rows.length * sz := by rw [h.1, List.length_cons, Nat.add_mul]; omega
    have e : cs = cs.take sz ++ cs.drop sz := (List.take_append_drop _ _).symm
    rw [e, List.flatten_cons, List.map_append]
    refine ARel.append ⟨by simp [hr, hl], fun i h1 h2 => ?_⟩ (ih (fun r hr => hs r (by simp [hr])) ⟨by simp [hl], fun i j hi hj hj' hl' => ?_⟩)
    · have hi : i < sz := by simpa [hr] using h1
      have := h.2 0 i (by simp) hi (by simp [hr, hi]) (by omega)
      simp only [List.getElem_map, List.getElem_take]
      simpa using AVRel.d _ _ this
    · have hl2 : (i + 1) * sz + j < cs.length := by
        simp only [List.length_drop] at hl'
        rw [Nat.add_mul]; omega
      have := h.2 (i + 1) j (by simp [hi]) hj (by simpa using hj') hl2
      simp only [List.getElem_drop]
      simpa [Nat.add_mul, Nat.add_assoc, Nat.add_comm, Nat.add_left_comm] using this

theorem flatten_take {sz : Nat} : ∀ {rows : List (List Dat)} (_ : ∀ r ∈ rows, r.length = sz) (m : Nat), (rows.take m).flatten = rows.flatten.take (m * sz)
  | [], _, m => by simp
  | r :: rows, h, 0 => by simp
  | r :: rows, h, m + 1 => by
    have hr := h r (by simp)
    rw [List.take_succ_cons, List.flatten_cons, List.flatten_cons, flatten_take (fun r hr => h r (by simp [hr])) m, List.take_append, hr]
    have e : (m + 1) * sz - sz = m * sz := by rw [Nat.add_mul]; omega
    have e2 : r.take ((m + 1) * sz) = r := List.take_of_length_le (by rw [hr, Nat.add_mul]; omega)
    rw [e, e2]
theorem RowsAt.take {rows : List (List Dat)} {A : Option Addr} (h : RowsAt M rows A) (m : Nat) : RowsAt M (rows.take m) A := by
  rcases h with rfl | ⟨b, off, size, vs, h1, h2, h3, h4⟩
  · exact .inl (by simp)
  · refine .inr ⟨b, off, size, vs, h1, fun r hr => h2 r (List.mem_of_mem_take hr), fun o ho => h3 o (Nat.lt_of_lt_of_le ho (Nat.mul_le_mul_right _ (by simp; omega))), fun i j hi hj => ?_⟩
    simp only [List.getElem_take] at hj ⊢
    exact h4 i j _ hj

/-- What is copied: so many, these cells. -/
theorem copy_src {st : St} (hW : WRel G M st w) {sz : Nat} (h0 : sz ≠ 0) {Y : AV} {v : Value} (hY : AVRel M Y v) {n' n : Nat} (hn : Y.slen = some n') {cs : List AV} (hs : srcCells st (min n' n * sz) Y = some cs) (hl : cs.length = min n' n * sz) (hsc : cs.all AV.sc = true)
    (hr : ∀ r, Y.rows? = some r → ∀ l ∈ r, l.length = sz) :
    (Builtin.lenOf v).run P w = .ok n' w ∧ ∃ vs : List Value, ARel M cs vs ∧ (∀ v ∈ vs, v.oneCell' = true) ∧ (Builtin.firstCells sz (min n' n) v).run P w = .ok vs.toArray w := by
  have rows : ∀ rows, Y.rows? = some rows → rows.length = n' → (rows.flatten.map .d).take (min n' n * sz) = cs → (Builtin.lenOf v).run P w = .ok n' w ∧ ∃ vs : List Value, ARel M cs vs ∧ (∀ v ∈ vs, v.oneCell' = true) ∧ (Builtin.firstCells sz (min n' n) v).run P w = .ok vs.toArray w := by
    intro rows hrows hln hcs
    obtain ⟨A, cap, rfl, hcap, hR⟩ := inv_rows hrows hY
    refine ⟨by simp [Builtin.lenOf, hln], ?_⟩
    obtain ⟨us, hRC, hus⟩ := rowsAt_cells (P := P) hW h0 (fun r h => hr _ hrows r (List.mem_of_mem_take h)) (cap := cap) (hR.take (min n' n))
    have hA := rowcells_rel (fun r h => hr _ hrows r (List.mem_of_mem_take h)) hRC
    rw [flatten_take (hr _ hrows), List.map_take, hcs] at hA
    refine ⟨_, hA, sc_list hsc hA, ?_⟩
    have hfull := hus w rfl
    have e : (rows.take (min n' n)).length = min n' n := by rw [List.length_take, hln]; omega
    rw [e] at hfull
    cases A <;> exact hfull
  cases Y with
  | bsl b off len cap =>
    obtain ⟨rfl, _⟩ := inv_bsl hY
    cases hn
    simp only [srcCells, Option.map_eq_some_iff] at hs
    obtain ⟨cells, hb, rfl⟩ := hs
    obtain ⟨vs, h1, h2, h3⟩ := bsl_src (P := P) (sz := sz) (n := n') (cap := cap) hW hb hl hsc
    exact ⟨by simp [Builtin.lenOf], vs, h1, h2, h3 _ rfl⟩
  | _ =>
    simp only [AV.slen, Option.map_eq_some_iff] at hn
    obtain ⟨r, hr1, hr2⟩ := hn
    simp only [srcCells, Option.map_eq_some_iff] at hs
    obtain ⟨r', hr3, hr4⟩ := hs
    rw [hr1] at hr3
    cases hr3
    exact rows r hr1 hr2 hr4

theorem g_copy {t u : TypeId} {p q : Operand} {c : Call} (hx : XRel D G M N x a w) (ho : o.op = .call c) (hcal : c.callee = .builtin .copy) (ha : c.args.toList = [p, q]) (ht : c.argTypes.toList = [t, u])
    {po : POp} (hc : cBuiltin P .copy c.argTypes c.args = some po) {Q : AV → Mx → Prop} {Qe : Exit → Act → World → Prop}
    (h : (nf G x.sl po).step (PCallsE P G E) x.m Q) : o.wp P a w (KPost G M x a w o Q) Qe := by
  have ha' : c.args = #[p, q] := by rw [← Array.toArray_toList (xs := c.args), ha]
  have ht' : c.argTypes = #[t, u] := by rw [← Array.toArray_toList (xs := c.argTypes), ht]
  unfold cBuiltin at hc
  rw [ha, ht] at hc
  simp only at hc
  split at hc <;> (try (cases hc; done))
  rename_i e e' hu hu'
  split at hc <;> cases hc
  rename_i sz ga gb hs hga hgb
  obtain ⟨h0, ⟨i, hi1, hi2⟩, hsz⟩ := sizeT_some hs
  have h1 := cArg_rel hx hga
  have h2 := cArg_rel hx hgb
  simp only [nf] at h
  split at h <;> (try (exact h.elim))
  rename_i b off n cap e1
  obtain ⟨cells, n', cs, hb, hn, hsrc, ⟨hl, hsc⟩, hfit, hrows, hq⟩ := h
  rw [e1] at h1
  obtain ⟨hv, _⟩ := inv_bsl h1
  obtain ⟨hlen, vs, hA, hone, hfc⟩ := copy_src (P := P) hx.w h0 h2 hn hsrc hl hsc hrows
  obtain ⟨t', cur, hg1, hA1, _⟩ := box_cells hx.w hb
  have hvs : vs.length = min n' n * sz := by rw [hA.1, hl]
  have hst := run_storeCells_at P b off t' vs 0 cur w hg1 (by have := hA1.1; simp at this ⊢; omega) hone
  rw [Nat.add_zero] at hst
  obtain ⟨e2, e3⟩ := hx.w.writeBox (cells' := cells.take off ++ cs ++ cells.drop (off + min n' n * sz))
    (cs' := (cur.toList.take off ++ vs ++ cur.toList.drop (off + vs.length)).toArray) hb hg1 (by simpa using hA1.splice hA off _ hvs)
  refine wp_value (v := .int .i64 (min n' n : Nat)) (m' := Mx.new _) ?_ e2 (rel_int _ _) e3 hq
  have hrun : (Builtin.copy_ #[t, u] o.type #[a.eval p, a.eval q]).run P w = .ok (.int .i64 (min n' n : Nat)) (w.setRow b (cur.toList.take off ++ vs ++ cur.toList.drop (off + vs.length)).toArray) := by
    rw [hv]
    have hmin : Nat.min n' n = min n' n := rfl
    simp [Builtin.copy_, run_underlying hu, hlen, hsz, hmin, hfc, hst, goInt]
  simp [execOp, ho, resolve, hcal, ha', ht', invoke, builtin, hrun]

theorem cZero_rel {t : TypeId} {z : AV} (h : cZero P t = some z) : ∃ v, (zeroValue t).run P w = .ok v w ∧ AVRel M z v := by
  unfold cZero at h
  cases hi : P.info? t with
  | none => rw [hi] at h; cases h
  | some i =>
    rw [hi] at h
    simp only [Option.bind_some] at h
    cases hz : i.zero with
    | none => rw [hz] at h; cases h
    | some v =>
      rw [hz] at h
      refine ⟨v, by simp [zeroValue, typeInfo, hi, hz], ?_⟩
      split at h
      · rename_i cs e
        cases e
        simp only [Option.map_eq_some_iff] at h
        obtain ⟨l, hl, rfl⟩ := h
        obtain ⟨l1, k1⟩ := mapM_some_iff hl
        have : cs = cs.toList.toArray := by simp
        rw [this]
        exact .agg l cs.toList l1.symm fun i a b => cVal_rel (k1 i b a)
      · rename_i v' _ e
        cases e
        exact cVal_rel h
      · rename_i e; cases e

theorem flat_rep (l : List AV) (k : Nat) (hk : l.length = k) (h0 : k ≠ 0) : ∀ (n i : Nat), i < n * k → (List.replicate n l).flatten[i]? = l[i % k]?
  | 0, i, h => by omega
  | n + 1, i, h => by
    rw [List.replicate_succ, List.flatten_cons]
    by_cases hi : i < k
    · rw [List.getElem?_append_left (by omega), Nat.mod_eq_of_lt hi]
    · rw [List.getElem?_append_right (by omega), hk, flat_rep l k hk h0 n (i - k) (by rw [Nat.add_mul] at h; omega), ← Nat.mod_eq_sub_mod (by omega)]
theorem zero_rel {z : AV} {v : Value} {sz : Nat} (h : ARel M z.cells v.cells.toList) (hl : z.cells.length = sz) (h0 : sz ≠ 0) (n : Nat) : ARel M (List.replicate n z.cells).flatten (Builtin.zeroCells v.cells n).toList := by
  have hs : v.cells.size = sz := by rw [← Array.length_toList, h.1, hl]
  have hll : (List.replicate n z.cells).flatten.length = n * sz := by simp [hl]
  refine ⟨by simp [Builtin.zeroCells, hs, hl], fun i a b => ?_⟩
  have hi : i < n * sz := by omega
  have him : i % sz < sz := Nat.mod_lt _ (by omega)
  have e1 := flat_rep z.cells sz hl h0 n i hi
  rw [List.getElem?_eq_getElem a, List.getElem?_eq_getElem (by omega), Option.some.injEq] at e1
  have e2 : (Builtin.zeroCells v.cells n).toList[i] = v.cells.toList[i % sz]'(by simp [hs]; exact him) := by
    simp [Builtin.zeroCells, hs]
    rw [getElem!_pos v.cells (i % sz) (by omega)]
  rw [e1, e2]
  exact h.2 _ _ _
theorem g_clr {t : TypeId} {p : Operand} {c : Call} (hx : XRel D G M N x a w) (ho : o.op = .call c) (hcal : c.callee = .builtin .clear) (ha : c.args.toList = [p]) (ht : c.argTypes.toList = [t])
    {po : POp} (hc : cBuiltin P .clear c.argTypes c.args = some po) {Q : AV → Mx → Prop} {Qe : Exit → Act → World → Prop}
    (h : (nf G x.sl po).step (PCallsE P G E) x.m Q) : o.wp P a w (KPost G M x a w o Q) Qe := by
  have ha' : c.args = #[p] := by rw [← Array.toArray_toList (xs := c.args), ha]
  have ht' : c.argTypes = #[t] := by rw [← Array.toArray_toList (xs := c.argTypes), ht]
  unfold cBuiltin at hc
  rw [ha, ht] at hc
  simp only at hc
  split at hc <;> (try (cases hc; done))
  rename_i e hu
  split at hc <;> (try (cases hc; done))
  rename_i sz z ga hs hz hga
  split at hc <;> cases hc
  rename_i hzc
  obtain ⟨hzl, hzs⟩ := hzc
  obtain ⟨h0, _, _⟩ := sizeT_some hs
  obtain ⟨zv, hz1, hz2⟩ := cZero_rel (M := M) (w := w) hz
  have h1 := cArg_rel hx hga
  simp only [nf] at h
  split at h <;> (try (exact h.elim))
  rename_i b off n cap e1
  obtain ⟨cells, hb, hn0, hfit, hq⟩ := h
  rw [e1] at h1
  obtain ⟨hv, _⟩ := inv_bsl h1
  have hA := zero_rel (cells_rel hz2 (by intro e; rw [e] at hzl; exact h0 hzl.symm)) hzl h0 n
  obtain ⟨t', cur, hg1, hA1, _⟩ := box_cells hx.w hb
  have hvs : (Builtin.zeroCells zv.cells n).toList.length = n * z.cells.length := by rw [hA.1]; simp
  have hsc : ((List.replicate n z.cells).flatten).all AV.sc = true := List.all_eq_true.2 fun y hy => by
    obtain ⟨m, hm, hy⟩ := List.mem_flatten.1 hy
    rw [List.eq_of_mem_replicate hm] at hy
    exact List.all_eq_true.1 hzs y hy
  have hst := run_storeCells_at P b off t' (Builtin.zeroCells zv.cells n).toList 0 cur w hg1 (by have := hA1.1; simp at this hvs ⊢; omega) (sc_list hsc hA)
  rw [Nat.add_zero] at hst
  obtain ⟨e2, e3⟩ := hx.w.writeBox (cells' := cells.take off ++ (List.replicate n z.cells).flatten ++ cells.drop (off + n * z.cells.length))
    (cs' := (cur.toList.take off ++ (Builtin.zeroCells zv.cells n).toList ++ cur.toList.drop (off + (Builtin.zeroCells zv.cells n).toList.length)).toArray) hb hg1 (by simpa using hA1.splice hA off _ hvs)
  refine wp_value (v := .tuple #[]) (m' := Mx.new _) ?_ e2 (.tup [] [] rfl (fun i h => by simp at h)) e3 hq
  obtain ⟨n, rfl⟩ := Nat.exists_eq_succ_of_ne_zero hn0
  have hrun : (Builtin.clear_ #[t] o.type #[a.eval p]).run P w = .ok (.tuple #[]) (w.setRow b (cur.toList.take off ++ (Builtin.zeroCells zv.cells (n + 1)).toList ++ cur.toList.drop (off + (Builtin.zeroCells zv.cells (n + 1)).toList.length)).toArray) := by
    rw [hv]
    simp [Builtin.clear_, run_underlying hu, hz1, hst]
  simp [execOp, ho, resolve, hcal, ha', ht', invoke, builtin, hrun]

theorem g_tassert {t xt : TypeId} {p : Operand} (hx : XRel D G M N x a w) (ho : o.op = .typeAssert p xt t true) {po : POp} (hc : cTassert P t p = some po) {r : AV} (h : ev G x.sl po = some r) : Gives P G M x.m.st a w o r := by
  unfold cTassert at hc
  split at hc <;> (try (cases hc; done))
  rename_i d hd hu
  split at hc <;> cases hc
  rename_i z g hz hg
  have h1 := cArg_rel hx hg
  obtain ⟨zv, hz1, hz2⟩ := cZero_rel (M := M) (w := w) hz
  have tt : ∀ {X : AV} {v : Value} (b : Bool), AVRel M X v → AVRel M (.tup [X, b2 b]) (.tuple #[v, .bool b]) := fun {X v} b hX =>
    .tup _ [v, .bool b] rfl fun i h1 h2 => by
      cases i with
      | zero => exact hX
      | succ i => cases i with
        | zero => exact rel_b2 b
        | succ i => simp at h1; omega
  have und : ∀ w', (underlying t).run P w' = .ok d w' := fun w' => run_underlying hu w'
  simp only [ev] at h
  split at h <;> cases h
  · rename_i u cells e
    rw [e] at h1
    cases h1 with
    | d _ _ h1 =>
      generalize hpv : a.eval p = pv at h1
      cases h1 with
      | ifa _ _ cs hf hc =>
        have hA : AVRel M (.agg (cells.map .d)) (.agg cs.toArray) := .agg _ cs (by simp [hf]) fun i a b => by simp only [List.getElem_map]; exact .d _ _ (hc i (by simpa using a) b)
        by_cases hut : u = t
        · rw [if_pos hut]
          refine .same hx.w (v := .tuple #[.agg cs.toArray, .bool true]) ?_ (tt true hA)
          cases d <;> first | exact absurd rfl (hd _) | simp [execOp, ho, hpv, Instr.typeAssert, und, hut]
        · rw [if_neg hut]
          refine .same hx.w (v := .tuple #[zv, .bool false]) ?_ (tt false hz2)
          cases d <;> first | exact absurd rfl (hd _) | simp [execOp, ho, hpv, Instr.typeAssert, und, hut, hz1]
  · rename_i u y e
    rw [e] at h1
    cases h1 with
    | d _ _ h1 =>
      generalize hpv : a.eval p = pv at h1
      cases h1 with
      | ifc _ _ v hv =>
        by_cases hut : u = t
        · rw [if_pos hut]
          refine .same hx.w (v := .tuple #[v, .bool true]) ?_ (tt true (.d _ _ hv))
          cases d <;> first | exact absurd rfl (hd _) | simp [execOp, ho, hpv, Instr.typeAssert, und, hut]
        · rw [if_neg hut]
          refine .same hx.w (v := .tuple #[zv, .bool false]) ?_ (tt false hz2)
          cases d <;> first | exact absurd rfl (hd _) | simp [execOp, ho, hpv, Instr.typeAssert, und, hut, hz1]
  · rename_i e
    rw [e] at h1
    cases h1 with
    | d _ _ h1 =>
      generalize hpv : a.eval p = pv at h1
      cases h1
      refine .same hx.w (v := .tuple #[zv, .bool false]) ?_ (tt false hz2)
      cases d <;> first | exact absurd rfl (hd _) | simp [execOp, ho, hpv, Instr.typeAssert, und, hz1]

theorem g_builtin {c : Call} {b : Builtin} (hx : XRel D G M N x a w) (ho : o.op = .call c) (hcal : c.callee = .builtin b) {po : POp} (hc : cBuiltin P b c.argTypes c.args = some po) {Q : AV → Mx → Prop} {Qe : Exit → Act → World → Prop}
    (h : (nf G x.sl po).step (PCallsE P G E) x.m Q) : o.wp P a w (KPost G M x a w o Q) Qe := by
  have hc' := hc
  unfold cBuiltin at hc
  split at hc <;> (try (cases hc; done))
  · rename_i p t ha ht
    have ha' : c.args = #[p] := by rw [← Array.toArray_toList (xs := c.args), ha]
    have ht' : c.argTypes = #[t] := by rw [← Array.toArray_toList (xs := c.argTypes), ht]
    split at hc <;> (try (cases hc; done)) <;> simp only [Option.map_eq_some_iff] at hc <;> obtain ⟨g, hg, rfl⟩ := hc
    · rename_i e hu
      exact Gives.wpN rfl h fun r hr => g_len hx ho hcal ha' ht' hg (.inl ⟨⟨e, hu⟩, hr⟩)
    · rename_i hu
      exact Gives.wpN rfl h fun r hr => g_len hx ho hcal ha' ht' hg (.inr ⟨hu, hr⟩)
  · rename_i p q t u ha ht
    exact g_app hx ho hcal ha ht hc' h
  · rename_i p q t u ha ht
    exact g_copy hx ho hcal ha ht hc' h
  · rename_i p t ha ht
    exact g_clr hx ho hcal ha ht hc' h
  · rename_i p rest ha
    split at hc <;> cases hc
    rename_i g gs hg hgs
    exact Gives.wpN rfl h fun r hr => g_minmax (mx := true) hx ho hcal ha hg hgs hr
  · rename_i p rest ha
    split at hc <;> cases hc
    rename_i g gs hg hgs
    exact Gives.wpN rfl h fun r hr => g_minmax (mx := false) hx ho hcal ha hg hgs hr

theorem next0 : Extern.allNextRows.lookup "math.Float64bits" = none := by kernel_rfl
theorem next1 : Extern.allNextRows.lookup "math.Float64frombits" = none := by kernel_rfl
theorem nextE : Extern.allNextRows.lookup "" = none := by kernel_rfl
theorem gen0 : Extern.allGenericRows.lookup "math.Float64bits" = none := by kernel_rfl
theorem gen1 : Extern.allGenericRows.lookup "math.Float64frombits" = none := by kernel_rfl
theorem typ0 : Extern.allTypedRows.lookup "math.Float64bits" = none := by kernel_rfl
theorem typ1 : Extern.allTypedRows.lookup "math.Float64frombits" = none := by kernel_rfl
theorem row0 : Extern.allRows.lookup "math.Float64bits" = some Extern.MathFloatBits.float64bits := by kernel_rfl
theorem row1 : Extern.allRows.lookup "math.Float64frombits" = some Extern.MathFloatBits.float64frombits := by kernel_rfl

/-- A function of the library without a text. -/
theorem g_native {c : Call} {f : FuncId} {k : Nat} {p : Operand} (hx : XRel D G M N x a w) (ho : o.op = .call c) (hcal : c.callee = .value (.func f)) (hk : native P f = some k) (ha : c.args.toList = [p]) {g : Arg} (hg : cArg p = some g) {r : AV} (h : ev G x.sl (.nat k g) = some r) :
    Gives P G M x.m.st a w o r := by
  have h1 := cArg_rel hx hg
  have hargs : c.args = #[p] := by rw [← Array.toArray_toList (xs := c.args), ha]
  unfold native at hk
  split at hk <;> (try (cases hk; done))
  rename_i fn hf
  split at hk <;> (try (cases hk; done))
  rename_i hb
  split at hk
  · rename_i hn
    cases hk
    simp only [ev] at h
    split at h <;> cases h
    rename_i b e
    rw [e] at h1
    have h2 : Extern.findNext fn = none := by simp only [Extern.findNext, hn, hb.2, next0, nextE]; rfl
    have h3 : Extern.find fn = some Extern.MathFloatBits.float64bits := by simp only [Extern.find, hn, gen0, typ0, row0]; rfl
    have h4 := run_callFunc_extern hf (by rw [hn]; decide) hb.1 h2 h3 #[.float .f64 b] w
    refine .same hx.w (v := .int .u64 b) ?_ (rel_int _ _)
    simp only [execOp, ho, resolve, hcal, hargs, Act.eval, Deferred.ofValue, invoke, Sem.run_bind, Sem.run_pure, Result.andThen_ok]
    simpa [inv_flt h1] using h4.trans (b := Result.ok (Next.value (Value.int .u64 b)) w) rfl
  · split at hk <;> cases hk
    rename_i hn
    simp only [ev] at h
    split at h <;> cases h
    rename_i b e
    rw [e] at h1
    have h2 : Extern.findNext fn = none := by simp only [Extern.findNext, hn, hb.2, next1, nextE]; rfl
    have h3 : Extern.find fn = some Extern.MathFloatBits.float64frombits := by simp only [Extern.find, hn, gen1, typ1, row1]; rfl
    have h4 := run_callFunc_extern hf (by rw [hn]; decide) hb.1 h2 h3 #[.int .u64 b] w
    refine .same hx.w (v := .float .f64 b.toNat) ?_ (.d _ _ (.flt _ _))
    simp only [execOp, ho, resolve, hcal, hargs, Act.eval, Deferred.ofValue, invoke, Sem.run_bind, Sem.run_pure, Result.andThen_ok]
    simpa [inv_int h1] using h4.trans (b := Result.ok (Next.value (Value.float .f64 b.toNat)) w) rfl

theorem g_call {c : Call} {st pure : Bool} (hx : XRel D G M N x a w) (ho : o.op = .call c) {po : POp} (hc : cCall P st pure c = some po) {Q : AV → Mx → Prop} {Qe : Exit → Act → World → Prop} (hE : QeOk G E M x.m.st a w Qe)
    (h : (nf G x.sl po).step (PCallsE P G E) x.m Q) : o.wp P a w (KPost G M x a w o Q) Qe := by
  have direct : ∀ f as, c.callee = .value (.func f) → cArgs c.args = some as →
      (entered P f = true → (execOp a.eval o).run P w = .ok (.enter f (c.args.map a.eval)) w) ∧ ARel M ((as.map fun (p : Arg) => p.ev G x.sl).map AV.weak) (c.args.map a.eval).toList := by
    intro f as hcal has
    refine ⟨fun hent => ?_, ?_⟩
    · simp [execOp, ho, resolve, hcal, Act.eval, Deferred.ofValue, invoke, run_callFunc_ent hent]
    · rw [Array.toList_map]; exact weakArgs_rel (cArgs_rel hx has)
  have via : ∀ g v as, c.callee = .value v → cArg v = some g → cArgs c.args = some as → ∀ f fs cs, g.ev G x.sl = .d (.fn f fs cs) →
      ∃ args : Array Value, (entered P f = true → (execOp a.eval o).run P w = .ok (.enter f args) w) ∧ ARel M (fs.map .d ++ ((as.map fun (p : Arg) => p.ev G x.sl).map AV.weak) ++ cs.map .d) args.toList := by
    intro g v as hcal hg has f fs cs e
    have h1 := cArg_rel hx hg
    rw [e] at h1
    obtain ⟨us, ws, hv, r1, r2⟩ := inv_fn h1
    have r3 : ARel M ((as.map fun (p : Arg) => p.ev G x.sl).map AV.weak) (c.args.map a.eval).toList := by
      rw [Array.toList_map]; exact weakArgs_rel (cArgs_rel hx has)
    refine ⟨us.toArray ++ c.args.map a.eval ++ ws.toArray, fun hent => ?_, ?_⟩
    · simp only [execOp, ho, resolve, hcal, hv, Deferred.ofValue, invoke, Sem.run_bind, Sem.run_pure, Result.andThen_ok]
      exact run_callFunc_ent hent _ _
    · have := (r1.append r3).append r2
      simpa using this
  unfold cCall at hc
  split at hc
  · rename_i b hcal; exact g_builtin hx ho hcal hc h
  · rename_i f hcal
    split at hc
    · simp only [Option.map_eq_some_iff] at hc
      obtain ⟨as, has, rfl⟩ := hc
      obtain ⟨d1, d2⟩ := direct f as hcal has
      cases pure
      · cases st
        · exact call_c0 hx d1 d2 hE h
        · exact call_ci hx d1 d2 hE h
      · exact call_cp hx d1 d2 hE h
    · split at hc <;> (try (cases hc; done))
      rename_i k p hk ha
      simp only [Option.map_eq_some_iff] at hc
      obtain ⟨g, hg, rfl⟩ := hc
      exact Gives.wpN rfl h fun r hr => g_native hx ho hcal hk ha hg hr
  · rename_i v hne hcal
    split at hc <;> (try (cases hc; done))
    rename_i g as hg has
    cases hc
    cases pure
    · cases st
      · simp only [Bool.false_eq_true, if_false, nf] at h
        split at h <;> (try (exact h.elim))
        rename_i f fs cs e
        obtain ⟨args, d1, d2⟩ := via g v as hcal hg has f fs cs e
        exact call_c0 hx d1 d2 hE h
      · simp only [Bool.false_eq_true, if_false, if_true, nf] at h
        split at h <;> (try (exact h.elim))
        rename_i f fs cs e
        obtain ⟨args, d1, d2⟩ := via g v as hcal hg has f fs cs e
        exact call_ci hx d1 d2 hE h
    · simp only [if_true, nf] at h
      split at h <;> (try (exact h.elim))
      rename_i f fs cs e
      obtain ⟨args, d1, d2⟩ := via g v as hcal hg has f fs cs e
      exact call_cp hx d1 d2 hE h
  · cases hc

/-- EVERY OPERATION. -/
theorem op_sound {st pure : Bool} (hx : XRel D G M N x a w) {po : POp} (hc : comp P st pure o = some po) {Q : AV → Mx → Prop} {Qe : Exit → Act → World → Prop} (hE : QeOk G E M x.m.st a w Qe)
    (h : (nf G x.sl po).step (PCallsE P G E) x.m Q) : o.wp P a w (KPost G M x a w o Q) Qe := by
  unfold comp at hc
  split at hc <;> (try (cases hc; done))
  · rename_i p ho
    simp only [Option.map_eq_some_iff] at hc; obtain ⟨g, hg, rfl⟩ := hc
    exact Gives.wpN rfl h fun r hr => by cases hr; exact g_move hx (.inl ho) hg
  · rename_i p ho
    simp only [Option.map_eq_some_iff] at hc; obtain ⟨g, hg, rfl⟩ := hc
    exact Gives.wpN rfl h fun r hr => by cases hr; exact g_move hx (.inr ho) hg
  · rename_i ho
    split at hc <;> cases hc
    rename_i h1 h2 h3
    refine Gives.wpN rfl h fun r hr => ?_
    simp only [ev] at hr
    split at hr <;> cases hr
    rename_i t e
    exact g_pick hx ho h1 h2 h3 e
  · rename_i ho; exact g_binop hx ho hc h
  · rename_i ho; exact Gives.wpN (isN_un hc) h fun r hr => g_un hx ho hc hr
  · rename_i ho; exact Gives.wpN (isN_conv hc) h fun r hr => g_conv hx ho hc hr
  · rename_i ho
    simp only [Option.map_eq_some_iff] at hc; obtain ⟨g, hg, rfl⟩ := hc
    exact Gives.wpN rfl h fun r hr => g_nilchk hx ho hg hr
  · rename_i ho; exact Gives.wpN (isN_faddr hc) h fun r hr => g_faddr hx ho hc hr
  · rename_i ho; exact Gives.wpN (isN_field hc) h fun r hr => g_field hx ho hc hr
  · rename_i ho; exact Gives.wpN (isN_iaddr hc) h fun r hr => g_iaddr hx ho hc hr
  · rename_i ho; exact Gives.wpN (isN_index hc) h fun r hr => g_index hx ho hc hr
  · rename_i ho
    simp only [Option.map_eq_some_iff] at hc; obtain ⟨g, hg, rfl⟩ := hc
    exact Gives.wpN rfl h fun r hr => g_ext hx ho hg hr
  · rename_i ho; exact Gives.wpN (isN_slice hc) h fun r hr => g_slice hx ho hc hr
  · rename_i ho; exact Gives.wpN (isN_build hc) h fun r hr => g_build hx ho hc hr
  · rename_i ho; exact Gives.wpN (isN_bsl hc) h fun r hr => g_bsl hx ho hc hr
  · rename_i ho
    split at hc <;> (try (cases hc; done))
    rename_i h1 h2
    split at hc <;> cases hc
    exact Gives.wpN rfl h fun r hr => g_mkfn hx ho h1 h2 hr
  · rename_i ho
    split at hc <;> (try (cases hc; done))
    rename_i d hd hu
    simp only [Option.map_eq_some_iff] at hc; obtain ⟨g, hg, rfl⟩ := hc
    exact Gives.wpN rfl h fun r hr => g_mki hx ho hu (fun m e => hd m e) hg hr
  · rename_i ho; exact g_load hx ho hc h
  · rename_i ho; exact g_store hx ho hc h
  · rename_i ho; exact g_box hx ho hc h
  · rename_i ho; exact g_alloc hx ho hc h
  · rename_i ho; exact g_make hx ho hc h
  · rename_i ho; exact g_call hx ho hc hE h
  · rename_i ho
    have hN : po.isN = true := by
      unfold cTassert at hc
      split at hc <;> (try (cases hc; done))
      split at hc <;> cases hc
      rfl
    exact Gives.wpN hN h fun r hr => g_tassert hx ho hc hr
  · rename_i ho; exact g_mkmap hx ho hc h
  · rename_i ho; exact g_mins hx (.inl ho) hc h
  · rename_i ho; exact g_mins hx (.inr ho) hc h
  · rename_i ho; exact g_mget hx ho hc h

theorem g_storeo {t : TypeId} {p q : Operand} (hx : XRel D G M N x a w) (ho : o.op = .store t p q) {po : POp} (hc : cStoreo P t p q = some po) {Q : AV → Mx → Prop} {Qe : Exit → Act → World → Prop}
    (h : (nf G x.sl po).step (PCallsE P G E) x.m Q) : o.wp P a w (KPost G M x a w o Q) Qe := by
  unfold cStoreo at hc
  split at hc <;> cases hc
  rename_i sz g gv hs hg hgv
  have h1 := cArg_rel hx hg
  have h2 := cArg_rel hx hgv
  obtain ⟨h0, _, hsz⟩ := sizeT_some hs
  simp only [nf] at h
  split at h <;> (try (exact h.elim))
  rename_i b off e
  rw [e] at h1
  obtain ⟨cells, hb, ⟨hl, hsc⟩, hfit, hq⟩ := h
  obtain ⟨t', cs, hg1, hA, _⟩ := box_cells hx.w hb
  have hR := cells_rel h2 (by intro e; rw [e] at hl; exact h0 hl.symm)
  have hvs : (a.eval q).cells.toList.length = sz := by rw [hR.1, hl]
  have hst := run_storeCells_at P b off t' (a.eval q).cells.toList 0 cs w hg1 (by have := hA.1; simp at this hvs ⊢; omega) (sc_list hsc hR)
  rw [Nat.add_zero] at hst
  obtain ⟨e1, e2⟩ := hx.w.writeBox (cells' := cells.take off ++ (gv.ev G x.sl).cells ++ cells.drop (off + sz))
    (cs' := (cs.toList.take off ++ (a.eval q).cells.toList ++ cs.toList.drop (off + (a.eval q).cells.toList.length)).toArray) hb hg1 (by simpa using hA.splice hR off sz hvs)
  have hsize : (a.eval q).cells.size = sz := by simpa using hvs
  exact wp_skipped (m' := ⟨_, fun _ _ => False, fun _ => False⟩) (by simp [execOp, ho, inv_ptr h1, Instr.storeAt, Instr.sureAddr, storeVar, hsz, hsize, hst]) e1 e2 hq

theorem undef_rel {l : List Value} {n : Nat} (h : l.length = n) : ARel M (List.replicate n .undef) l :=
  ⟨by simp [h], fun i h1 h2 => by rw [List.getElem_replicate]; exact .undef _⟩

/-- What is appended to nothing, as a variable's row. -/
theorem appB_core {t u ty e : TypeId} {i : TypeInfo} {z : Value} {d : TypeDesc} (ht : P.underlying t = some (.slice e)) (hu : P.underlying u = some d) (hd : d = .slice e ∨ d = .string) (hi : P.info? e = some i)
    (hz : i.zero = some z) (hzs : z.cells.size = i.size) (h0 : i.size ≠ 0) (hby : 0 < i.bytes) {st : St} (hW : WRel G M st w) {v vs : Value} {news : List (List Dat)} {cs : List Value} (hs : Src P w i.size v news.length cs) (hR : RowCells M i.size news cs)
    {X : AV} (hX : AVRel M X vs) {m : Mx} (hm : m.st = st) {Q : AV → Mx → Prop} (h : (NF.ab i.size i.bytes X news).step (PCallsE P G E) m Q) :
    ∃ r v' w' m' M', (Builtin.append_ #[t, u] ty #[vs, v]).run P w = .ok v' w' ∧ WRel G M' m'.st w' ∧ AVRel M' r v' ∧ Frame st m'.st M M' w w' ∧ Q r m' := by
  subst hm
  obtain ⟨hns, hcase⟩ := h
  revert hcase
  split
  · rename_i rows
    rintro ⟨hrs, hfit, hq⟩
    obtain ⟨A, cap, rfl, hc, hA⟩ := inv_rows (rows := rows) rfl hX
    have hcap : cap = rows.length := by cases hX <;> rfl
    subst hcap
    split at hq
    · rename_i hn
      subst hn
      have hcs : cs = [] := List.eq_nil_of_length_eq_zero (by simpa using hR.1)
      subst hcs
      exact ⟨_, _, w, m, M, run_app_none ht hu hd hi hs A rows.length rows.length hc, hW, hX, .refl _ _ _, hq⟩
    · rename_i hn
      have hpos : 0 < news.length := List.length_pos_iff.2 hn
      obtain ⟨olds, hO, hold⟩ := rowsAt_cells (P := P) hW h0 hrs (cap := rows.length) hA
      have hrun := run_app_grow (ty := ty) ht hu hd hi hz hs (base := A) (sCap := rows.length) hold (by omega) hby hfit
      have hge := grownCap_ge w (rows.length + news.length) rows.length e
      generalize grownCap w (rows.length + news.length) rows.length e = c2 at *
      have hall : ∀ r ∈ rows ++ news, r.length = i.size := fun r hr => by
        rcases List.mem_append.1 hr with hr | hr
        · exact hrs r hr
        · exact hns r hr
      have hA2 : ARel M ((rows ++ news).flatten.map .d ++ List.replicate ((c2 - (rows.length + news.length)) * i.size) .undef) (olds.toArray ++ cs.toArray ++ Builtin.zeroCells z.cells (c2 - (rows.length + news.length))).toList := by
        have := (rowcells_rel hall (hO.append hR)).append (undef_rel (M := M) (l := (Builtin.zeroCells z.cells (c2 - (rows.length + news.length))).toList) (n := (c2 - (rows.length + news.length)) * i.size) (by rw [Array.length_toList, size_zeroCells, hzs]))
        simpa using this
      obtain ⟨e1, e2⟩ := (Grows.alloc w.drew _ e).drew.newBox hW hA2
      exact ⟨.bsl w.heap.size 0 (rows.length + news.length) c2, _, _, m.setSt _, M, hrun, e1, .bsl _ _ _ _ hge, e2, hq _ c2 hW.fresh hge⟩
  · rename_i b0 o0 n0 cap0
    rintro ⟨rfl, hnc, cells, hb, hcl, hfit, hq⟩
    obtain ⟨rfl, _⟩ := inv_bsl hX
    obtain ⟨t', cur, hg1, hA1, _⟩ := box_cells hW hb
    have hcur : cur.size = cap0 * i.size := by have := hA1.1; simp at this; omega
    split at hq
    · rename_i hn
      subst hn
      have hcs : cs = [] := List.eq_nil_of_length_eq_zero (by simpa using hR.1)
      subst hcs
      exact ⟨_, _, w, m, M, run_app_none ht hu hd hi hs _ n0 cap0 hnc, hW, hX, .refl _ _ _, hq⟩
    · rename_i hn
      have hpos : 0 < news.length := List.length_pos_iff.2 hn
      have hNA := rowcells_rel hns hR
      have hcsl : cs.length = news.length * i.size := hR.1
      split at hq
      · rename_i hroom
        have hmul : n0 * i.size + news.length * i.size ≤ cap0 * i.size := by rw [← Nat.add_mul]; exact Nat.mul_le_mul_right _ hroom
        have hrun := run_app_room (ty := ty) ht hu hd hi hs hg1 (sLen := n0) (sCap := cap0) (hR.one hns h0) hroom (by rw [hcsl, hcur]; exact hmul)
        obtain ⟨e1, e2⟩ := hW.writeBox (cells' := cells.take (n0 * i.size) ++ news.flatten.map .d ++ cells.drop (n0 * i.size + news.length * i.size))
          (cs' := (cur.toList.take (n0 * i.size) ++ cs ++ cur.toList.drop (n0 * i.size + cs.length)).toArray) hb hg1 (by simpa using hA1.splice hNA (n0 * i.size) _ hcsl)
        exact ⟨.bsl b0 0 (n0 + news.length) cap0, _, _, Mx.new _, M, hrun, e1, .bsl _ _ _ _ hroom, e2, hq⟩
      · rename_i hroom
        have hk : n0 * i.size ≤ cells.length := by rw [hcl]; exact Nat.mul_le_mul_right _ hnc
        have hsub : ARel M (cells.take (n0 * i.size)) (cur.toList.take (n0 * i.size)) := hA1.take _
        have hold : ∀ w' : World, w'.heap = w.heap → (Builtin.firstCells i.size n0 (.slice (some ⟨b0, 0, none⟩) n0 cap0)).run P w' = .ok (cur.toList.take (n0 * i.size)).toArray w' := by
          intro w' hw
          refine run_firstCells_some (P := P) w' i.size n0 ⟨b0, 0, none⟩ n0 cap0 _ (by rw [hsub.1, List.length_take]; omega) (fun j v hj => ?_)
          rw [add_mid, Nat.zero_add]
          have : w'.cell? ⟨b0, j, none⟩ = w.cell? ⟨b0, j, none⟩ := by unfold World.cell?; rw [hw]
          rw [this, cell_of_row _ _ _ _ _ _ hg1]
          rw [List.getElem?_take] at hj
          split at hj
          · simpa using hj
          · cases hj
        have hrun := run_app_grow (ty := ty) ht hu hd hi hz hs (base := some ⟨b0, 0, none⟩) (sLen := n0) (sCap := cap0) hold (by omega) hby hfit
        have hge := grownCap_ge w (n0 + news.length) cap0 e
        generalize grownCap w (n0 + news.length) cap0 e = c2 at *
        have hA2 : ARel M (cells.take (n0 * i.size) ++ news.flatten.map .d ++ List.replicate ((c2 - (n0 + news.length)) * i.size) .undef) ((cur.toList.take (n0 * i.size)).toArray ++ cs.toArray ++ Builtin.zeroCells z.cells (c2 - (n0 + news.length))).toList := by
          have := (hsub.append hNA).append (undef_rel (M := M) (l := (Builtin.zeroCells z.cells (c2 - (n0 + news.length))).toList) (n := (c2 - (n0 + news.length)) * i.size) (by rw [Array.length_toList, size_zeroCells, hzs]))
          simpa using this
        obtain ⟨e1, e2⟩ := (Grows.alloc w.drew _ e).drew.newBox hW hA2
        exact ⟨.bsl w.heap.size 0 (n0 + news.length) c2, _, _, m.setSt _, M, hrun, e1, .bsl _ _ _ _ hge, e2, hq _ c2 hW.fresh hge⟩
  · exact False.elim

theorem rowcells_of {sz : Nat} : ∀ {rows : List (List Dat)} (_ : ∀ r ∈ rows, r.length = sz) {cs : List Value} (_ : ARel M (rows.flatten.map .d) cs), RowCells M sz rows cs
  | [], _, cs, h => ⟨by simpa using h.1, fun i j hi => by simp at hi⟩
  | r :: rows, hs, cs, h => by
    have hr : r.length = sz := hs r List.mem_cons_self
    rw [List.flatten_cons, List.map_append] at h
    have h1 := h.take sz
    have h2 := h.drop sz
    have hl : (r.map AV.d).length = sz := by rw [List.length_map, hr]
    rw [List.take_append_of_le_length (by omega), List.take_of_length_le (by omega)] at h1
    rw [List.drop_append_of_le_length (by omega), List.drop_of_length_le (by omega), List.nil_append] at h2
    have k1 : RowCells M sz [r] (cs.take sz) := ⟨by rw [h1.1, hl]; simp, fun i j hi hj hj' hk => by
      have : i = 0 := by simp at hi; omega
      subst this
      have := h1.2 j (by rw [hl]; exact hj) (by simpa using hk)
      rw [List.getElem_map] at this
      cases this with
      | d _ _ h => simpa using h⟩
    have := k1.append (rowcells_of (fun r hr => hs r (List.mem_cons_of_mem _ hr)) h2)
    rw [List.take_append_drop] at this
    exact this
theorem flatten_len {sz : Nat} {rows : List (List Dat)} (hs : ∀ r ∈ rows, r.length = sz) : rows.flatten.length = rows.length * sz := by
  induction rows with
  | nil => simp
  | cons r rows ih => rw [List.flatten_cons, List.length_append, hs r List.mem_cons_self, ih fun x hx => hs x (List.mem_cons_of_mem _ hx), List.length_cons, Nat.add_mul, Nat.one_mul, Nat.add_comm]

theorem g_appB {c : Call} (hx : XRel D G M N x a w) (ho : o.op = .call c) {po : POp} (hc : cAppB P c = some po) {Q : AV → Mx → Prop} {Qe : Exit → Act → World → Prop}
    (h : (nf G x.sl po).step (PCallsE P G E) x.m Q) : o.wp P a w (KPost G M x a w o Q) Qe := by
  unfold cAppB at hc
  split at hc <;> (try (cases hc; done))
  rename_i hcal
  split at hc <;> cases hc
  rename_i sz bytes ga gb hb
  unfold cBuiltin at hb
  split at hb <;> (try (cases hb; done))
  all_goals (try contradiction)
  rename_i p q t u heq ha ht
  have ha' : c.args = #[p, q] := by rw [← Array.toArray_toList (xs := c.args), ha]
  have ht' : c.argTypes = #[t, u] := by rw [← Array.toArray_toList (xs := c.argTypes), ht]
  split at hb <;> (try (cases hb; done))
  rename_i e hu
  split at hb <;> (try (cases hb; done))
  rename_i ie sz ga gb hie hs hga hgb
  split at hb <;> (try (cases hb; done))
  rename_i z hz
  split at hb <;> (try (cases hb; done))
  rename_i hcond
  obtain ⟨hzs, hby⟩ := hcond
  obtain ⟨h0, ⟨i', hi1, hi2⟩, hsz⟩ := sizeT_some hs
  rw [hie] at hi1; cases hi1
  subst hi2
  have h1 := cArg_rel hx hga
  have h2 := cArg_rel hx hgb
  have fin : ∀ {r : AV} {v' : Value} {w' : World} {m' : Mx} {M' : Mem}, (Builtin.append_ #[t, u] o.type #[a.eval p, a.eval q]).run P w = .ok v' w' → WRel G M' m'.st w' → AVRel M' r v' → Frame x.m.st m'.st M M' w w' → Q r m' →
      o.wp P a w (KPost G M x a w o Q) Qe := by
    intro r v' w' m' M' e1 e2 e3 e4 e5
    exact wp_value (v := v') (by simp [execOp, ho, resolve, hcal, ha', ht', invoke, builtin, e1]) e2 e3 e4 e5
  split at hb <;> (try (cases hb; done))
  · rename_i e' hu'
    split at hb <;> cases hb
    rename_i he
    subst he
    simp only [nf] at h
    split at h
    · rename_i news hnews
      obtain ⟨A, cap, hv, hcap, hR⟩ := inv_rows hnews h2
      have hns : ∀ r ∈ news, r.length = ie.size := h.1
      obtain ⟨cs, hRC, hcs⟩ := rowsAt_cells (P := P) hx.w h0 hns (cap := cap) hR
      rw [hv] at fin
      obtain ⟨r, v', w', m', M', e1, e2, e3, e4, e5⟩ := appB_core (E := E) (ty := o.type) hu hu' (.inl rfl) hie hz hzs h0 hby hx.w ⟨fun w' => by simp [Builtin.lenOf], hcs, hRC.1⟩ hRC h1 rfl h
      exact fin e1 e2 e3 e4 e5
    · split at h <;> (try (exact h.elim))
      rename_i b off n cap hbs
      rw [hbs] at h2
      obtain ⟨cells, news, hb, hcl, hnl, hns, hX, hfit, hn0, hq⟩ := h
      obtain ⟨hv, hcap⟩ := inv_bsl h2
      have hlen : ((cells.drop off).take (n * ie.size)).length = n * ie.size := by rw [hcl, List.length_map, flatten_len hns, hnl]
      obtain ⟨t', cur, hg1, hA1, _⟩ := box_cells hx.w hb
      have hA2 := (hA1.drop off).take (n * ie.size)
      have hcs : ∀ w' : World, w'.heap = w.heap → (Builtin.firstCells ie.size n (.slice (some ⟨b, off, none⟩) n cap)).run P w' = .ok ((cur.toList.drop off).take (n * ie.size)).toArray w' := by
        intro w' hw
        refine run_firstCells_some (P := P) w' ie.size n ⟨b, off, none⟩ n cap _ (by rw [hA2.1, hlen]) (fun j v hj => ?_)
        rw [add_mid]
        have : w'.cell? ⟨b, off + j, none⟩ = w.cell? ⟨b, off + j, none⟩ := by unfold World.cell?; rw [hw]
        rw [this, cell_of_row _ _ _ _ _ _ hg1]
        rw [List.getElem?_take] at hj
        split at hj
        · rw [List.getElem?_drop] at hj
          simpa using hj
        · cases hj
      rw [hcl] at hA2
      have hRC := rowcells_of (M := M) hns hA2
      rw [hv] at fin
      subst hnl
      obtain ⟨r, v', w', m', M', e1, e2, e3, e4, e5⟩ := appB_core (E := E) (ty := o.type) hu hu' (.inl rfl) hie hz hzs h0 hby hx.w ⟨fun w' => by simp [Builtin.lenOf], hcs, hRC.1⟩ hRC h1 rfl (Q := Q) (m := x.m) (by
        rw [hX]
        refine ⟨hns, fun r hr => (by cases hr), by simpa using hfit, ?_⟩
        rw [if_neg (by intro e; exact hn0 (by rw [e]; rfl))]
        intro b' cap' hb' hc'
        simp only [List.length_nil, Nat.zero_add, List.nil_append] at hc' ⊢
        exact hq b' cap' hb' hc')
      exact fin e1 e2 e3 e4 e5
  · split at hb <;> cases hb

theorem g_callE {c : Call} (hx : XRel D G M N x a w) (ho : o.op = .call c) {po : POp} (hc : cCallE P c = some po) {Q : AV → Mx → Prop} {Qe : Exit → Act → World → Prop} (hE : QeOk G E M x.m.st a w Qe)
    (h : (nf G x.sl po).step (PCallsE P G E) x.m Q) : o.wp P a w (KPost G M x a w o Q) Qe := by
  unfold cCallE at hc
  split at hc <;> (try (cases hc; done))
  rename_i f hcal
  split at hc <;> (try (cases hc; done))
  rename_i hent
  simp only [Option.map_eq_some_iff] at hc
  obtain ⟨as, has, rfl⟩ := hc
  have hrun : (execOp a.eval o).run P w = .ok (.enter f (c.args.map a.eval)) w := by
    simp [execOp, ho, resolve, hcal, Act.eval, Deferred.ofValue, invoke, run_callFunc_ent hent]
  have hA : ARel M ((as.map fun (p : Arg) => p.ev G x.sl).map AV.weak) (c.args.map a.eval).toList := by
    rw [Array.toList_map]; exact weakArgs_rel (cArgs_rel hx has)
  simp only [nf] at h
  obtain ⟨R, hC, hq⟩ := h
  rcases hC with ⟨_, hc⟩ | ⟨hf, _⟩
  · unfold Oper.wp
    rw [hrun, Oper.upon_enter]
    refine (hc M w _ hx.w hA).mono ?_
    rintro e w' (⟨v, r, st', M', rfl, hW, hr, hF, hR⟩ | ⟨v, r, st', M', rfl, hW, hr, hF, hEr⟩)
    · exact ⟨v, r, _, M', rfl, hW, hr, hF, (hq r st' hR).2⟩
    · exact hE v r st' M' w' hW hr hF hEr
  · rw [hf] at hent
    simp [entered] at hent

/-- EVERY OPERATION, in every mode. -/
theorem op_sound2 {st pure : Bool} {k : Nat} (hx : XRel D G M N x a w) {po : POp} (hc : comp2 P st pure k o = some po) {Q : AV → Mx → Prop} {Qe : Exit → Act → World → Prop} (hE : QeOk G E M x.m.st a w Qe)
    (h : (nf G x.sl po).step (PCallsE P G E) x.m Q) : o.wp P a w (KPost G M x a w o Q) Qe := by
  unfold comp2 at hc
  split at hc
  · rename_i ho
    split at hc
    · exact g_storeo hx ho hc h
    · exact op_sound hx hc hE h
  · rename_i ho
    split at hc
    · split at hc
      · rename_i p hp
        cases hc
        exact g_callE hx ho hp hE h
      · exact op_sound hx hc hE h
    · split at hc
      · split at hc
        · rename_i p hp
          cases hc
          exact g_appB hx ho hp h
        · exact op_sound hx hc hE h
      · exact op_sound hx hc hE h
  · exact op_sound hx hc hE h

end
end Go.Pv
