/- The library's sort of whole numbers, by value: the kit's contract. No condition. -/
import Derived.Test.YtoghanbjiikheaaP17
import Derived.Shelf.Sort.Plain
namespace Go.Pv
open Go.Proofs Go.Shelf Go.Sort Go.RowKit

theorem onC (f : Array Value → Array Value) (c : Array Value) (e : TypeId) (fr : Nat × Nat) : onCells f (.cells c e fr) = .cells (f c) e fr := rfl
theorem sortedP {P : Program} {ρ : Ren} {G : Glob} (Ly : Lays.n189 P ρ) (hent : entered P (ρ.f 189) = true) (b c : Nat) (zs : List Int) (rest : List AV) (st : St) (hb : st.box b = some ((zs.map fun n => AV.d (.int .i64 n)) ++ rest)) (hsz : zs.length < 4611686018427387904) :
    PCalls P G (ρ.f 189) [.bsl b 0 zs.length c] st fun r st' => r = .tup [] ∧ st' = st.setBox b (((zs.mergeSort fun x y => decide (x ≤ y)).map fun n => AV.d (.int .i64 n)) ++ rest) := by
  refine .of hent fun M w vals hW hA => ?_
  obtain ⟨ty, cs, h1, h2, h3⟩ := hW.box b _ hb
  have hbl := hW.box_lt hb
  have hs2 : cs.size = zs.length + rest.length := by rw [h2, List.length_append, List.length_map]
  have hvals : vals = #[.slice (some ⟨b, 0, none⟩) zs.length c] := by
    have hl : vals.size = 1 := by have := hA.1; simp at this; omega
    have h0 := hA.2 0 (by simp) (by simp [hl])
    have h4 := (inv_bsl h0).1
    apply Array.ext_getElem?
    intro i
    cases i with
    | zero =>
      rw [Array.getElem?_eq_getElem (by omega)]
      simpa using h4
    | succ i => rw [Array.getElem?_eq_none (by omega), Array.getElem?_eq_none (by simp)]
  subst hvals
  have hcell : ∀ j, j < zs.length → cs[j]? = some (.int .i64 zs[j]!) := fun j hj => by
    have hj2 : j < cs.size := by omega
    have h4 := h3 j (by rw [List.length_append, List.length_map]; omega) hj2
    rw [List.getElem_append_left (by simpa using hj), List.getElem_map] at h4
    rw [Array.getElem?_eq_getElem hj2, inv_int h4, getElem!_pos zs j hj]
  have hH : Holds (Value.int .i64) w b 0 zs.toArray := by
    intro j hj
    have hj' : j < zs.length := by simpa using hj
    constructor
    · simp only [World.cell?, h1, Nat.zero_add]
      simp [hcell j hj']
    · simp [World.frozen?, h1]
  have hcall := Any.slices_Sort_int Ly b 0 c zs w hH hbl hsz
  refine hcall.mono ?_
  rintro e w' ⟨rfl, n, os, rfl⟩
  have hms : (zs.mergeSort fun x y => decide (x ≤ y)).length = zs.length := List.length_mergeSort _
  generalize hys : (zs.mergeSort fun x y => decide (x ≤ y)) = ys at *
  have hheap : ∀ k, k < w.heap.size → (grow (putRow (Value.int .i64) (Sort.ahead w n) b 0 ys.toArray) os).heap[k]? = if b = k then some (.cells (putCells (Value.int .i64) 0 ys.toArray cs) ty (0, 0)) else w.heap[k]? := fun k hk => by
    simp only [grow, putRow, mapBlock, Sort.ahead]
    rw [Array.getElem?_append_left (by simpa using hk), Array.getElem?_modify]
    split
    · rename_i e; subst e; rw [h1]; rfl
    · rfl
  refine ⟨_, .tup [], st.setBox b ((ys.map fun n => AV.d (.int .i64 n)) ++ rest), M, rfl, ?_, ?_, ?_, rfl, rfl⟩
  · have hne : ∀ k l, st.box k = some l → k < w.heap.size := fun k l h => hW.box_lt h
    refine ⟨fun k l hk => ?_, fun k l hk o => ?_, fun k l hk => ?_, fun k q hk => ?_, fun k o v hk => ?_, hW.glob⟩
    · rw [St.box_setBox] at hk
      split at hk
      · rename_i e
        subst e
        cases hk
        refine ⟨ty, _, by rw [hheap _ hbl, if_pos rfl], by simp [putCells, hs2, hms], fun i a b' => ?_⟩
        have hic : i < cs.size := by simpa [putCells] using b'
        have hpc : (putCells (Value.int .i64) 0 ys.toArray cs)[i] = if 0 ≤ i ∧ i < 0 + ys.toArray.size then .int .i64 ys.toArray[i - 0]! else cs[i] := by simp [putCells]
        rw [hpc]
        by_cases hi : i < ys.length
        · rw [if_pos ⟨Nat.zero_le _, by simpa using hi⟩, List.getElem_append_left (by simpa using hi), List.getElem_map]
          have : ys.toArray[i - 0]! = ys[i] := by
            rw [Nat.sub_zero, getElem!_pos ys.toArray i (by simpa using hi)]; simp
          rw [this]
          exact .d _ _ (.int _ _)
        · rw [if_neg (fun h => hi (by simpa using h.2)), List.getElem_append_right (by simpa using hi)]
          have h4 := h3 i (by rw [List.length_append, List.length_map]; omega) hic
          rw [List.getElem_append_right (by simp; omega)] at h4
          simp only [List.length_map] at h4 ⊢
          have e5 : i - zs.length = i - ys.length := by rw [hms]
          simpa [e5] using h4
      · rename_i e
        obtain ⟨t', cs', g1, g2, g3⟩ := hW.box k l hk
        exact ⟨t', cs', by rw [hheap k (hne k l hk), if_neg (Ne.symm e)]; exact g1, g2, g3⟩
    · rw [St.box_setBox] at hk
      split at hk
      · rename_i e; subst e; exact hW.boxM _ _ hb o
      · exact hW.boxM k l hk o
    · rw [St.box_setBox] at hk
      show st.tok k = none
      split at hk
      · rename_i e; subst e; exact hW.boxT _ _ hb
      · exact hW.boxT k l hk
    · have hk' : st.tok k = some q := hk
      obtain ⟨g1, ⟨t', cs', g2, g3⟩, g4⟩ := hW.tok k q hk'
      have hkb : b ≠ k := fun e => by subst e; rw [hW.boxT _ _ hb] at hk'; cases hk'
      exact ⟨g1, ⟨t', cs', by rw [hheap k (hW.tok_lt hk'), if_neg hkb]; exact g2, g3⟩, g4⟩
    · have hkb : b ≠ k := fun e => by subst e; rw [hW.boxM _ _ hb o] at hk; cases hk
      have := hW.imm k o v hk
      simp only [World.cell?] at this ⊢
      rw [hheap k (hW.imm_lt hk), if_neg hkb]
      exact this
  · exact .tup [] [] rfl (fun i h => by simp at h)
  · refine ⟨rfl, rfl, rfl, by simp [grow, putRow, mapBlock, Sort.ahead], fun k hk h4 h5 => ?_, fun _ _ _ _ _ => rfl, .refl _, fun k hk h4 h5 => ⟨?_, h5⟩⟩
    · have hkb : b ≠ k := fun e => by subst e; rw [hb] at h4; cases h4
      rw [hheap k hk, if_neg hkb]
    · have hkb : k ≠ b := fun e => by subst e; rw [hb] at h4; cases h4
      rw [St.box_setBox, if_neg hkb]; exact h4
end Go.Pv
