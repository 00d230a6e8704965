/- append, by value. No condition. -/
import Derived.Test.YtdggkhnelmonkaaDoorP12
namespace Go.Pv

section
variable {D : Fr} {E : PE} {P : Program} {G : Glob} {M : Mem} {N : Nat} {x : X} {a : Act} {w : World} {o : Oper}

theorem RowCells.mono {M' : Mem} (hm : MLe M M') {sz : Nat} {rows : List (List Dat)} {cs : List Value} (h : RowCells M sz rows cs) : RowCells M' sz rows cs :=
  ⟨h.1, fun i j a b c d => (h.2 i j a b c d).mono hm⟩

theorem RowCells.append {sz : Nat} {rows news : List (List Dat)} {cs ds : List Value} (h : RowCells M sz rows cs) (k : RowCells M sz news ds) : RowCells M sz (rows ++ news) (cs ++ ds) := by
  refine ⟨by simp [h.1, k.1, Nat.add_mul], fun i j hi hj hj' hl => ?_⟩
  by_cases hr : i < rows.length
  · have h1 : i * sz + j < cs.length := by rw [h.1]; exact mul_lt_row hr hj
    simp only [List.getElem_append_left hr, List.getElem_append_left h1] at hj' ⊢
    exact h.2 i j hr hj hj' h1
  · have hr' : rows.length ≤ i := by omega
    have e : (i - rows.length) * sz + rows.length * sz = i * sz := by rw [← Nat.add_mul]; congr 1; omega
    have h1 : cs.length ≤ i * sz + j := by rw [h.1]; omega
    simp only [List.getElem_append_right hr', List.getElem_append_right h1] at hj' ⊢
    have hi2 : i - rows.length < news.length := by simp at hi; omega
    have e2 : i * sz + j - cs.length = (i - rows.length) * sz + j := by rw [h.1]; omega
    simp only [e2]
    exact k.2 _ j hi2 hj hj' _

theorem own_of_cells {sz : Nat} {rows : List (List Dat)} {cs : List Value} (hs : ∀ r ∈ rows, r.length = sz) (h : RowCells M sz rows cs) {b cap : Nat} (hm : ∀ o (ho : o < cs.length), M b o = some cs[o]) (hc : rows.length ≤ cap) :
    AVRel M (.own b rows cap) (.slice (some ⟨b, 0, none⟩) rows.length cap) := by
  refine .own b rows cap sz (fun o => cs.getD o undef) hc hs (fun o ho => ?_) (fun i j hi hj => ?_)
  · rw [← h.1] at ho
    rw [hm o ho, List.getD, List.getElem?_eq_getElem ho]; rfl
  · have hj' : j < sz := by rw [← hs _ (List.getElem_mem hi)]; exact hj
    have hl : i * sz + j < cs.length := by rw [h.1]; exact mul_lt_row hi hj'
    rw [List.getD, List.getElem?_eq_getElem hl]
    exact h.2 i j hi hj' hj hl

/-- New rows, with the right to grow. -/
theorem Grows.newTok {st : St} {w' : World} {cs : Array Value} {t : TypeId} (hW : WRel G M st w) (h : Grows w w' cs t (0, 0)) {sz cap : Nat} {rows : List (List Dat)} {front : List Value}
    (hs : ∀ r ∈ rows, r.length = sz) (hR : RowCells M sz rows front) (hcs : cs.size = cap * sz) (hcap : rows.length ≤ cap) (hfr : ∀ o (ho : o < front.length), cs[o]? = some front[o]) :
    WRel G (M.ext w.heap.size cs (rows.length * sz)) (st.setTok w.heap.size ⟨rows.length, cap, sz⟩) w' ∧
      AVRel (M.ext w.heap.size cs (rows.length * sz)) (.own w.heap.size rows cap) (.slice (some ⟨w.heap.size, 0, none⟩) rows.length cap) ∧
      Frame st (st.setTok w.heap.size ⟨rows.length, cap, sz⟩) M (M.ext w.heap.size cs (rows.length * sz)) w w' := by
  have hf := hW.fresh
  have hB := h.same (k := rows.length * sz) hW
  refine ⟨⟨hB.box, hB.boxM, fun b l hb => ?_, fun b q hb => ?_, hB.imm, hB.glob⟩, ?_, h.frame hW fun b hb h1 h2 => ⟨h1, ?_⟩⟩
  · have hne : b ≠ w.heap.size := Nat.ne_of_lt (hW.box_lt hb)
    rw [St.tok_setTok, if_neg hne]; exact hW.boxT b l hb
  · rw [St.tok_setTok] at hb
    split at hb
    · rename_i e
      cases hb
      subst e
      refine ⟨hcap, ⟨t, cs, h.new, hcs⟩, fun o ho => ?_⟩
      have : ¬ o < rows.length * sz := by simp at ho; omega
      simp [Mem.ext, this]
    · exact hB.tok b q hb
  · refine own_of_cells hs (hR.mono (Grows.mle hW h.size)) (fun o ho => ?_) hcap
    have : o < rows.length * sz := by rw [← hR.1]; exact ho
    simp only [Mem.ext, if_true, if_pos this]
    exact hfr o ho
  · rw [St.tok_setTok, if_neg (by omega)]; exact h2

theorem WRel.dropTok {st : St} (hW : WRel G M st w) (b : Nat) : WRel G M (st.dropTok b) w where
  box := hW.box
  boxM := hW.boxM
  boxT := fun c l hc => by rw [St.tok_dropTok]; split; rfl; exact hW.boxT c l hc
  tok := fun c q hc => by rw [St.tok_dropTok] at hc; split at hc; cases hc; exact hW.tok c q hc
  imm := hW.imm
  glob := hW.glob

/-- In place. -/
def Mem.fill (M : Mem) (b off : Nat) (cs : List Value) : Mem := fun c o => if c = b ∧ off ≤ o ∧ o < off + cs.length then cs[o - off]? else M c o
theorem WRel.fillTok {st : St} (hW : WRel G M st w) {b n cap sz : Nat} (hb : st.tok b = some ⟨n, cap, sz⟩) {news : List (List Dat)} {cs : List Value} (hR : RowCells M sz news cs) (hroom : n + news.length ≤ cap)
    {t : TypeId} {cur : Array Value} (hg : w.heap[b]? = some (.cells cur t (0, 0))) (hcur : cur.size = cap * sz) :
    MLe M (M.fill b (n * sz) cs) ∧
    WRel G (M.fill b (n * sz) cs) (st.setTok b ⟨n + news.length, cap, sz⟩) (w.setRow b (cur.toList.take (n * sz) ++ cs ++ cur.toList.drop (n * sz + cs.length)).toArray) ∧
      Frame st (st.setTok b ⟨n + news.length, cap, sz⟩) M (M.fill b (n * sz) cs) w (w.setRow b (cur.toList.take (n * sz) ++ cs ++ cur.toList.drop (n * sz + cs.length)).toArray) := by
  obtain ⟨_, _, hM⟩ := hW.tok b _ hb
  have hmle : MLe M (M.fill b (n * sz) cs) := by
    intro c o v h
    unfold Mem.fill
    rw [if_neg]
    · exact h
    · rintro ⟨rfl, h1, _⟩
      rw [hM o h1] at h; cases h
  have hbB : ∀ c l, st.box c = some l → c ≠ b := fun c l hc e => by subst e; rw [hW.boxT c l hc] at hb; cases hb
  have hlen : n * sz + cs.length ≤ cur.size := by
    rw [hcur, hR.1, ← Nat.add_mul]; exact Nat.mul_le_mul_right _ hroom
  generalize hrow : (cur.toList.take (n * sz) ++ cs ++ cur.toList.drop (n * sz + cs.length)).toArray = row
  have hrs : row.size = cur.size := by rw [← hrow]; simp; omega
  have hat : ∀ o, row[o]? = if n * sz ≤ o ∧ o < n * sz + cs.length then cs[o - n * sz]? else cur[o]? := by
    intro o
    rw [← hrow, List.getElem?_toArray]
    have hlt : (cur.toList.take (n * sz)).length = n * sz := by simp; omega
    by_cases h1 : o < n * sz
    · rw [if_neg (by omega), List.append_assoc, List.getElem?_append_left (by omega), List.getElem?_take, if_pos h1]
      simp
    · by_cases h2 : o < n * sz + cs.length
      · rw [if_pos (by omega), List.append_assoc, List.getElem?_append_right (by omega), hlt, List.getElem?_append_left (by omega)]
      · have e : (cur.toList.take (n * sz) ++ cs).length = n * sz + cs.length := by rw [List.length_append, hlt]
        rw [if_neg (by omega), List.getElem?_append_right (by omega), e, List.getElem?_drop]
        have : n * sz + cs.length + (o - (n * sz + cs.length)) = o := by omega
        rw [this]; simp
  have hne : ∀ c, c ≠ b → (w.setRow b row).heap[c]? = w.heap[c]? := fun c hc => setRow_other w b c row hc
  have hnew : (w.setRow b row).heap[b]? = some (.cells row t (0, 0)) := setRow_heap w b cur row t _ hg
  have himm : ∀ c o v, (M.fill b (n * sz) cs) c o = some v → (w.setRow b row).cell? ⟨c, o, none⟩ = some v := by
    intro c o v hc
    by_cases hcb : c = b
    · subst hcb
      rw [cell_of_row _ _ _ _ _ _ hnew, hat]
      unfold Mem.fill at hc
      split at hc
      · rename_i e; rw [if_pos ⟨e.2.1, e.2.2⟩]; exact hc
      · rename_i e
        rw [if_neg (fun k => e ⟨rfl, k⟩)]
        have := hW.imm c o v hc
        rw [cell_of_row _ _ _ _ _ _ hg] at this
        exact this
    · rw [World.cell?_of_block (hne c hcb)]
      unfold Mem.fill at hc
      rw [if_neg (fun k => hcb k.1)] at hc
      exact hW.imm c o v hc
  refine ⟨hmle, ⟨fun c l hc => ?_, fun c l hc o => ?_, fun c l hc => ?_, fun c q hc => ?_, himm, fun g cells hgl i hi => ?_⟩, ⟨rfl, rfl, rfl, by simp, fun c hc _ h2 => ?_, fun c o hc h1 _ => ?_, hmle, fun c _ h1 h2 => ⟨h1, ?_⟩⟩⟩
  · obtain ⟨t', cs', h1, h2, h3⟩ := hW.box c l hc
    exact ⟨t', cs', by rw [hne c (hbB c l hc)]; exact h1, h2, fun i a b => (h3 i a b).mono hmle⟩
  · unfold Mem.fill; rw [if_neg (fun k => hbB c l hc k.1)]; exact hW.boxM c l hc o
  · rw [St.tok_setTok, if_neg (hbB c l hc)]; exact hW.boxT c l hc
  · rw [St.tok_setTok] at hc
    split at hc
    · rename_i e
      cases hc
      subst e
      refine ⟨hroom, ⟨t, row, hnew, by rw [hrs, hcur]⟩, fun o ho => ?_⟩
      simp only [Nat.add_mul, ← hR.1] at ho
      have := hR.1
      unfold Mem.fill
      rw [if_neg (by omega)]
      exact hM o (by simp only; omega)
    · rename_i hcb
      obtain ⟨h1, ⟨t', cs', h2, h3⟩, h4⟩ := hW.tok c q hc
      refine ⟨h1, ⟨t', cs', by rw [hne c hcb]; exact h2, h3⟩, fun o ho => ?_⟩
      unfold Mem.fill; rw [if_neg (fun k => hcb k.1)]; exact h4 o ho
  · obtain ⟨v, h1, h2⟩ := hW.glob g cells hgl i hi
    exact ⟨v, hmle _ _ _ h1, h2.mono hmle⟩
  · have : c ≠ b := fun e => by subst e; rw [hb] at h2; cases h2
    exact hne c this
  · have : c ≠ b := fun e => by subst e; rw [hb] at h1; cases h1
    unfold Mem.fill; rw [if_neg (fun k => this k.1)]
  · have : c ≠ b := fun e => by subst e; rw [hb] at h2; cases h2
    rw [St.tok_setTok, if_neg this]; exact h2

theorem St.setTok_same {st : St} {b : Nat} {k : Tok} (h : st.tok b = some k) : st.setTok b k = st := by
  refine St.ext' rfl (funext fun c => ?_)
  rw [St.tok_setTok]
  split
  · rename_i e; subst e; exact h.symm
  · rfl

theorem Grows.drew {w w' : World} {cs : Array Value} {t : TypeId} {fr : Nat × Nat} (h : Grows w.drew w' cs t fr) : Grows w w' cs t fr := ⟨h.os, h.tape, h.output, h.size, h.old, h.new⟩

/-- All of append, whatever is appended. -/
theorem app_core {t u ty e : TypeId} {i : TypeInfo} {z : Value} {d : TypeDesc} (ht : P.underlying t = some (.slice e)) (hu : P.underlying u = some d) (hd : d = .slice e ∨ d = .string) (hi : P.info? e = some i)
    (hz : i.zero = some z) (hzs : z.cells.size = i.size) (h0 : i.size ≠ 0) (hby : 0 < i.bytes) {st : St} (hW : WRel G M st w) {v vs : Value} {news : List (List Dat)} {cs : List Value} (hs : Src P w i.size v news.length cs) (hR : RowCells M i.size news cs)
    {X : AV} (hX : AVRel M X vs) {m : Mx} (hm : m.st = st) {Q : AV → Mx → Prop} (h : (NF.a i.size i.bytes X news).step (PCallsE P G E) m Q) :
    ∃ r v' w' m' M', (Builtin.append_ #[t, u] ty #[vs, v]).run P w = .ok v' w' ∧ WRel G M' m'.st w' ∧ AVRel M' r v' ∧ Frame st m'.st M M' w w' ∧ Q r m' := by
  subst hm
  obtain ⟨hns, hcase⟩ := h
  have empty : ∀ {A : Option Addr} {n cap : Nat}, news = [] → n ≤ cap → (Builtin.append_ #[t, u] ty #[.slice A n cap, v]).run P w = .ok (.slice A n cap) w := by
    intro A n cap hn hc
    subst hn
    have hcs : cs = [] := List.eq_nil_of_length_eq_zero (by simpa using hR.1)
    subst hcs
    exact run_app_none ht hu hd hi hs A n cap hc
  -- a new row
  have grow : ∀ (rows : List (List Dat)) (A : Option Addr) (n cap : Nat), n = rows.length → (∀ r ∈ rows, r.length = i.size) → RowsAt M rows A → cap < rows.length + news.length → (rows.length + news.length) * i.bytes ≤ 140737488355328 →
      ∀ st', WRel G M st' w → ∃ v' w' M' cap', (Builtin.append_ #[t, u] ty #[.slice A n cap, v]).run P w = .ok v' w' ∧
        WRel G M' (st'.setTok w.heap.size ⟨rows.length + news.length, cap', i.size⟩) w' ∧ AVRel M' (.own w.heap.size (rows ++ news) cap') v' ∧ Frame st' (st'.setTok w.heap.size ⟨rows.length + news.length, cap', i.size⟩) M M' w w' := by
    intro rows A n cap hn hrs hA hg hfit st' hW'
    subst hn
    obtain ⟨olds, hO, hold⟩ := rowsAt_cells (P := P) hW' h0 hrs (cap := cap) hA
    have hrun := run_app_grow (ty := ty) ht hu hd hi hz hs (base := A) (sCap := cap) hold hg hby hfit
    have hge := grownCap_ge w (rows.length + news.length) cap e
    generalize grownCap w (rows.length + news.length) cap e = c2 at *
    generalize hcs : (olds.toArray ++ cs.toArray ++ Builtin.zeroCells z.cells (c2 - (rows.length + news.length))) = row at hrun
    have hrow : row.size = c2 * i.size := by
      rw [← hcs, Array.size_append, Array.size_append, size_zeroCells, hzs, List.size_toArray, List.size_toArray, hO.1, hR.1, ← Nat.add_mul, ← Nat.add_mul]
      congr 1; omega
    have hall : ∀ r ∈ rows ++ news, r.length = i.size := fun r hr => by
      rcases List.mem_append.1 hr with hr | hr
      · exact hrs r hr
      · exact hns r hr
    have hgr : Grows w (w.drew.alloc (.cells row e)) row e (0, 0) := (Grows.alloc w.drew row e).drew
    have key := hgr.newTok hW' (cap := c2) hall (hO.append hR) hrow (by simpa using hge) (fun o ho => by
      have : row[o]? = (olds ++ cs)[o]? := by
        rw [← hcs, Array.getElem?_append_left (by simpa using ho)]
        simp
      rw [this, List.getElem?_eq_getElem ho])
    rw [List.length_append] at key
    exact ⟨_, _, _, c2, hrun, key.1, key.2.1, key.2.2⟩
  revert hcase
  split
  · rename_i rows
    rintro ⟨hrs, hfit, hq⟩
    obtain ⟨A, cap, rfl, hc, hA⟩ := inv_rows (rows := rows) rfl hX
    have hcap : cap = rows.length := by cases hX <;> rfl
    subst hcap
    split at hq
    · rename_i hn
      exact ⟨_, _, w, m, M, empty hn (Nat.le_refl _), hW, hX, .refl _ _ _, hq⟩
    · rename_i hn
      have hpos : 0 < news.length := List.length_pos_iff.2 hn
      obtain ⟨v', w', M', c2, e1, e2, e3, e4⟩ := grow rows A rows.length rows.length rfl hrs hA (by omega) hfit m.st hW
      exact ⟨_, v', w', _, M', e1, e2, e3, e4, hq _ c2 hW.fresh⟩
  · rename_i b rows cap
    rintro ⟨htok, hrs, hfit, hq1, hq2⟩
    obtain ⟨A, cap', hv, hc, hA⟩ := inv_rows (rows := rows) rfl hX
    by_cases hn : news = []
    · subst hn
      rw [List.append_nil] at hq1
      simp only [List.length_nil, Nat.add_zero] at hq1
      rw [St.setTok_same htok] at hq1
      refine ⟨_, vs, w, m.setSt m.st, M, ?_, hW, hX, .refl _ _ _, hq1⟩
      rw [hv]; exact empty rfl hc
    · have hfull := hX
      cases hX with
      | own b rows cap size vs' hcc hs' hm' hr' =>
      cases hv
      by_cases hroom : rows.length + news.length ≤ cap
      · obtain ⟨_, ⟨t', cur, hg, hcur⟩, hM⟩ := hW.tok b _ htok
        simp only at hcur hM
        obtain ⟨hmle, e1, e2⟩ := hW.fillTok htok hR hroom hg hcur
        have hR' := hR
        have hrun := run_app_room (ty := ty) ht hu hd hi hs hg (sLen := rows.length) (sCap := cap) (hR.one hns h0) hroom (by
          rw [hcur, hR.1, ← Nat.add_mul]; exact Nat.mul_le_mul_right _ hroom)
        refine ⟨_, _, _, m.setSt _, _, hrun, e1, ?_, e2, hq1⟩
        -- the rows
        have hall : ∀ r ∈ rows ++ news, r.length = i.size := fun r hr => by
          rcases List.mem_append.1 hr with hr | hr
          · exact hrs r hr
          · exact hns r hr
        have hvs : ∀ o, o < rows.length * i.size → M b o = some (vs' o) := by
          intro o ho
          have hne : rows ≠ [] := by intro e; subst e; simp at ho
          have hlt := List.length_pos_iff.2 hne
          have : size = i.size := by rw [← hs' rows[0] (List.getElem_mem hlt), hrs rows[0] (List.getElem_mem hlt)]
          rw [← this] at ho
          exact hm' o ho
        have hO : RowCells M i.size rows (tabulate vs' (rows.length * i.size)) := by
          refine ⟨by simp [tabulate_length], fun a j ha hj hj' hl => ?_⟩
          rw [tabulate_get]
          have hsz : size = i.size := by rw [← hs' rows[a] (List.getElem_mem ha), hrs rows[a] (List.getElem_mem ha)]
          rw [← hsz]
          exact hr' a j ha hj'
        have key := own_of_cells (b := b) (cap := cap) hall ((hO.append hR).mono hmle) (fun o ho => by
          unfold Mem.fill
          by_cases h1 : o < rows.length * i.size
          · rw [if_neg (by omega), List.getElem_append_left (by rw [tabulate_length]; exact h1), tabulate_get]
            exact hvs o h1
          · simp only [List.length_append, tabulate_length] at ho
            rw [if_pos ⟨rfl, by omega, ho⟩, List.getElem_append_right (by rw [tabulate_length]; omega), List.getElem?_eq_getElem (by omega)]
            simp only [tabulate_length]) (by simpa using hroom)
        rw [List.length_append] at key
        exact key
      · obtain ⟨v', w', M', c2, e1, e2, e3, e4⟩ := grow rows (some ⟨b, 0, none⟩) rows.length cap rfl hrs hA (by omega) hfit (m.st.dropTok b) (hW.dropTok b)
        have hb := hW.tok_lt htok
        refine ⟨_, v', w', m.setSt _, M', e1, e2, e3, ⟨e4.os, e4.tape, e4.output, e4.size, fun c hc h1 h2 => ?_, fun c o hc h1 h2 => ?_, e4.mle, fun c hc h1 h2 => ?_⟩, hq2 _ c2 hW.fresh⟩
        · exact e4.blk c hc h1 (by rw [St.tok_dropTok]; split; rfl; exact h2)
        · exact e4.mem c o hc (by rw [St.tok_dropTok]; split; rfl; exact h1) h2
        · exact e4.domB c hc h1 (by rw [St.tok_dropTok]; split; rfl; exact h2)
  · exact False.elim

end
end Go.Pv
