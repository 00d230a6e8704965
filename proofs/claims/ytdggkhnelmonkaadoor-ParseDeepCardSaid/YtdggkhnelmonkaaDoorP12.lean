/- append. No condition. -/
import Derived.Test.YtdggkhnelmonkaaDoorP11
namespace Go.Pv

section
variable {D : Fr} {E : PE} {P : Program} {G : Glob} {M : Mem} {N : Nat} {x : X} {a : Act} {w : World} {o : Oper}

/-- What is appended: so many, these cells. -/
structure Src (P : Program) (w : World) (size : Nat) (v : Value) (n : Nat) (cs : List Value) : Prop where
  len : ∀ w', (Builtin.lenOf v).run P w' = .ok n w'
  cells : ∀ w', w'.heap = w.heap → (Builtin.firstCells size n v).run P w' = .ok cs.toArray w'
  size : cs.length = n * size

/-- Rows, cell by cell. -/
def RowCells (M : Mem) (sz : Nat) (rows : List (List Dat)) (cs : List Value) : Prop :=
  cs.length = rows.length * sz ∧ ∀ i j (hi : i < rows.length) (_ : j < sz) (hj' : j < rows[i].length) (h : i * sz + j < cs.length), DRel M rows[i][j] cs[i * sz + j]

theorem RowCells.one {sz : Nat} {rows : List (List Dat)} (hs : ∀ r ∈ rows, r.length = sz) {cs : List Value} (h : RowCells M sz rows cs) (h0 : sz ≠ 0) : ∀ v ∈ cs, v.oneCell' = true := by
  intro v hv
  obtain ⟨k, hk, rfl⟩ := List.getElem_of_mem hv
  have hpos : 0 < sz := Nat.pos_of_ne_zero h0
  have hi : k / sz < rows.length := Nat.div_lt_of_lt_mul (by rw [h.1] at hk; rw [Nat.mul_comm]; exact hk)
  have hj : k % sz < sz := Nat.mod_lt _ hpos
  have hrow := hs _ (List.getElem_mem hi)
  have e : k / sz * sz + k % sz = k := by rw [Nat.mul_comm]; exact Nat.div_add_mod k sz
  have := h.2 (k / sz) (k % sz) hi hj (by rw [hrow]; exact hj) (by rw [e]; exact hk)
  simp only [e] at this
  generalize rows[k / sz][k % sz] = y at this
  generalize cs[k] = v at this ⊢
  cases this <;> rfl

theorem mul_lt_row {i j n sz : Nat} (hi : i < n) (hj : j < sz) : i * sz + j < n * sz := by
  have : (i + 1) * sz ≤ n * sz := Nat.mul_le_mul_right _ hi
  rw [Nat.add_mul, Nat.one_mul] at this
  omega

theorem rowsAt_cells {st : St} (hW : WRel G M st w) {sz : Nat} (h0 : sz ≠ 0) {rows : List (List Dat)} (hs : ∀ r ∈ rows, r.length = sz) {A : Option Addr} {cap : Nat} (hR : RowsAt M rows A) :
    ∃ cs, RowCells M sz rows cs ∧ ∀ w', w'.heap = w.heap → (Builtin.firstCells sz rows.length (.slice A rows.length cap)).run P w' = .ok cs.toArray w' := by
  rcases hR with rfl | ⟨b, off, size, vs, rfl, hss, hm, hr⟩
  · refine ⟨[], ⟨by simp, fun i j hi => by simp at hi⟩, fun w' _ => ?_⟩
    cases A with
    | none => simp [Builtin.firstCells]
    | some a' => simp [Builtin.firstCells, loadCells, loadCellsFrom]
  · by_cases hne : rows = []
    · subst hne
      refine ⟨[], ⟨by simp, fun i j hi => by simp at hi⟩, fun w' _ => ?_⟩
      simp [Builtin.firstCells, loadCells, loadCellsFrom]
    · have hlt : 0 < rows.length := List.length_pos_iff.2 hne
      have hsize : size = sz := by rw [← hss rows[0] (List.getElem_mem hlt), hs rows[0] (List.getElem_mem hlt)]
      subst hsize
      refine ⟨tabulate vs (rows.length * size), ⟨by simp [tabulate_length], fun i j hi hj hj' h => by rw [tabulate_get]; exact hr i j hi hj'⟩, fun w' hw => ?_⟩
      refine run_firstCells_some (P := P) w' size rows.length ⟨b, off, none⟩ rows.length cap _ (by simp [tabulate_length]) (fun j v hj => ?_)
      obtain ⟨hlt', rfl⟩ := List.getElem?_eq_some_iff.1 hj
      rw [tabulate_get, add_mid]
      have := hW.imm b (off + j) (vs j) (hm j (by simpa [tabulate_length] using hlt'))
      unfold World.cell? at *
      rw [hw]; exact this

theorem run_app_none {t u ty e : TypeId} {i : TypeInfo} {d : TypeDesc} (ht : P.underlying t = some (.slice e)) (hu : P.underlying u = some d) (hd : d = .slice e ∨ d = .string) (hi : P.info? e = some i)
    {v : Value} (hs : Src P w i.size v 0 []) (base : Option Addr) (sLen sCap : Nat) (hc : sLen ≤ sCap) :
    (Builtin.append_ #[t, u] ty #[.slice base sLen sCap, v]).run P w = .ok (.slice base sLen sCap) w := by
  have hf := hs.cells w rfl
  rcases hd with rfl | rfl <;> cases base <;>
    simp [Builtin.append_, run_underlying ht, run_underlying hu, sizeOf, typeInfo, hi, hs.len, hc, hf, storeCells]

theorem run_app_room {t u ty e : TypeId} {i : TypeInfo} {d : TypeDesc} (ht : P.underlying t = some (.slice e)) (hu : P.underlying u = some d) (hd : d = .slice e ∨ d = .string) (hi : P.info? e = some i)
    {v : Value} {n : Nat} {news : List Value} (hs : Src P w i.size v n news) {g : Nat} {t' : TypeId} {cur : Array Value} (hg : w.heap[g]? = some (.cells cur t' (0, 0))) {sLen sCap : Nat}
    (h1 : ∀ u ∈ news, u.oneCell' = true) (hroom : sLen + n ≤ sCap) (hfit : sLen * i.size + news.length ≤ cur.size) :
    (Builtin.append_ #[t, u] ty #[.slice (some ⟨g, 0, none⟩) sLen sCap, v]).run P w =
      .ok (.slice (some ⟨g, 0, none⟩) (sLen + n) sCap) (w.setRow g (cur.toList.take (sLen * i.size) ++ news ++ cur.toList.drop (sLen * i.size + news.length)).toArray) := by
  have hf := hs.cells w rfl
  have hst := run_storeCells_at P g (sLen * i.size) t' news 0 cur w hg (by simpa using hfit) h1
  simp only [Nat.add_zero] at hst
  rcases hd with rfl | rfl <;>
    simp [Builtin.append_, run_underlying ht, run_underlying hu, sizeOf, typeInfo, hi, hs.len, hroom, hf, Addr.add_lit, hst]

theorem run_app_grow {t u ty e : TypeId} {i : TypeInfo} {z : Value} {d : TypeDesc} (ht : P.underlying t = some (.slice e)) (hu : P.underlying u = some d) (hd : d = .slice e ∨ d = .string) (hi : P.info? e = some i)
    (hz : i.zero = some z) {v : Value} {n : Nat} {news : List Value} (hs : Src P w i.size v n news) {base : Option Addr} {sLen sCap : Nat} {olds : List Value}
    (ho : ∀ w', w'.heap = w.heap → (Builtin.firstCells i.size sLen (.slice base sLen sCap)).run P w' = .ok olds.toArray w')
    (hg : sCap < sLen + n) (hby : 0 < i.bytes) (hfit : (sLen + n) * i.bytes ≤ 140737488355328) :
    (Builtin.append_ #[t, u] ty #[.slice base sLen sCap, v]).run P w =
      .ok (.slice (some ⟨w.heap.size, 0, none⟩) (sLen + n) (grownCap w (sLen + n) sCap e))
        (w.drew.alloc (.cells (olds.toArray ++ news.toArray ++ Builtin.zeroCells z.cells (grownCap w (sLen + n) sCap e - (sLen + n))) e)) := by
  have hn : ¬ (sLen + n ≤ sCap) := by omega
  have hle : sLen + n ≤ 140737488355328 := Nat.le_trans (Nat.le_mul_of_pos_right _ hby) hfit
  have h63' : ¬ (9223372036854775807 < ((sLen : Int) + (n : Int))) := by omega
  have h48 := growslice_fits (need := sLen + n) (old := sCap) (bytes := i.bytes) hg hfit
  have h48' : ¬ (281474976710656 < Builtin.nextslicecap (sLen + n) sCap * i.bytes) := by omega
  have hf := hs.cells w.drew rfl
  have hfo := ho w.drew rfl
  rcases hd with rfl | rfl <;>
    (simp [Builtin.append_, run_underlying ht, run_underlying hu, sizeOf, typeInfo, zeroValue, hi, hz, hs.len, hn, h63', h48', Question.forced, hf, hfo, newRow, grownCap]
     try (congr 2; apply Array.ext'; simp [List.append_assoc]))

end
end Go.Pv
