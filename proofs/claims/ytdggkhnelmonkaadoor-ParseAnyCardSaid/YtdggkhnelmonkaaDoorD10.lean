/- Whole types of the tables that small numbers stand for; looking up. No condition. -/
import Derived.Test.YtdggkhnelmonkaaDoorD6
namespace Go.Pv

theorem KT.fit_eq (t : KT) : t.fit ↔ fitS t.names ∧ t.of.length < 2 ^ 40 ∧ ∀ o ∈ t.of, o.fit := by
  obtain ⟨k, m, n, o⟩ := t
  simp only [KT.fit, ktp]
  exact ⟨fun h => ⟨h.1, h.2.1, KT.fits_mem h.2.2⟩, fun h => ⟨h.1, h.2.1, fits_of h.2.2⟩⟩
theorem flat_fit : ∀ {d : Nat} {types : List Al} {x : KT}, x.fit → (∀ a ∈ types, a.ty.fit) → (flat d types x).fit
  | 0, _, _, h, _ => h
  | d + 1, types, x, h, ht => by
    unfold flat
    split
    · split
      · rename_i a ha
        exact flat_fit (ht a (List.mem_of_getElem? ha)) fun b hb => ht b (List.mem_of_mem_take hb)
      · exact h
    · rw [KT.fit_eq] at h ⊢
      simp only [ktp]
      refine ⟨h.1, by rw [List.length_map]; exact h.2.1, fun o ho => ?_⟩
      obtain ⟨u, hu, rfl⟩ := List.mem_map.1 ho
      exact flat_fit (h.2.2 u hu) ht
theorem seqB_refl (x : ByteArray) : seqB x x = true := seqB_iff.2 rfl
theorem eqAll_refl {α : Type} {e : α → α → Bool} {l : List α} (h : ∀ x ∈ l, e x x = true) : eqAll e l l = true := eqAll_all rfl fun _ h1 _ => h _ (List.getElem_mem h1)
theorem same_refl (t : KT) : t.same t = true := by
  induction t using KT.ind with
  | h k m n o ih =>
  simp only [KT.same, KT.sames_all, beq_self_eq_true, Bool.true_and, Bool.and_eq_true]
  exact ⟨eqAll_refl fun x _ => seqB_refl x, eqAll_refl ih⟩

/-- What a whole type is, and what is wrong with it, if anything. -/
theorem whole_few {types : List Al} {x : KT} (hd : dokc 20 types x) (hc : cnt 20 types x ≤ 200) : wholeM 20 types x 200 = ((flat 20 types x, 0), 200 - (cnt 20 types x : Int)) := (wholeM_cnt hd 200 (by decide)).1 (by omega)
theorem flat_cnt {d : Nat} {types : List Al} {x : KT} (hd : dokc d types x) : cnt d types (flat d types x) = cnt d types x := by
  have h1 := flat_plain hd
  have h2 := flat_plain (dokc_flat (types' := types) hd)
  rw [flat_same h1.1] at h2
  rw [← h2.2, h1.2]

theorem tname_inj : ∀ i j : Fin 4, seqB (tname i) (tname j) = true → i = j := by decide +kernel
section
variable {s : Sm} (hf : s.fit)
theorem refAt_at {m i : Nat} (hi : i < m) (hm : m ≤ 4) : refAt (s.types m) [tname i] = i := by
  unfold refAt
  have hi' : i < (s.types m).length := by rw [Sm.types_len]; exact hi
  rw [List.findIdx_eq hi']
  refine ⟨?_, fun j hj => ?_⟩
  · rw [Sm.types_get]
    simp only [List.length_singleton, decide_true, Bool.true_and, List.getD_cons_zero]
    exact seqB_refl _
  · rw [Sm.types_get]
    simp only [List.length_singleton, decide_true, Bool.true_and, List.getD_cons_zero]
    cases h : seqB (s.al j).name (tname i) with
    | false => rfl
    | true =>
      have := tname_inj ⟨j, by omega⟩ ⟨i, by omega⟩ h
      have : j = i := congrArg Fin.val this
      omega
theorem typ_flat (m : Nat) (hm : m ≤ 4) (IH : ∀ i, i < m → ∀ D D', 3 + 3 * i ≤ D → 3 + 3 * i ≤ D' → flat D (s.types i) (s.al i).ty = flat D' (s.types i) (s.al i).ty) {d : Nat} {x : Nd} (hd : 1 ≤ d) (hx : x.fit) :
    ∀ D D' m', d + 3 * m ≤ D → d + 3 * m ≤ D' → m ≤ m' → m' ≤ 4 → flat D (s.types m) (Nd.typ d x (known m)) = flat D' (s.types m') (Nd.typ d x (known m)) := by
  refine typ_ind (P := fun d y => ∀ D D' m', d + 3 * m ≤ D → d + 3 * m ≤ D' → m ≤ m' → m' ≤ 4 → flat D (s.types m) y = flat D' (s.types m') y) (known m) ?_ ?_ ?_ ?_ ?_ ?_ d x hd hx
  · intro d k h1 h2 h3 D D' m' hD hD' _ _
    obtain ⟨D, rfl⟩ : ∃ E, D = E + 1 := ⟨D - 1, by omega⟩
    obtain ⟨D', rfl⟩ : ∃ E, D' = E + 1 := ⟨D' - 1, by omega⟩
    simp only [flat, ktp, if_neg (show k ≠ 9 by omega), List.map_nil]
  · intro d k h1 h2 h3 D D' m' hD hD' _ _
    obtain ⟨D, rfl⟩ : ∃ E, D = E + 1 := ⟨D - 1, by omega⟩
    obtain ⟨D', rfl⟩ : ∃ E, D' = E + 1 := ⟨D' - 1, by omega⟩
    simp only [flat, ktp, List.map_nil]
    rfl
  · intro d k o h1 h2 h3 h D D' m' hD hD' hm1 hm2
    obtain ⟨D, rfl⟩ : ∃ E, D = E + 1 := ⟨D - 1, by omega⟩
    obtain ⟨D', rfl⟩ : ∃ E, D' = E + 1 := ⟨D' - 1, by omega⟩
    simp only [flat, ktp, List.map_cons, List.map_nil]
    rw [h D D' m' (by omega) (by omega) hm1 hm2]
    rfl
  · intro d k n many sub h1 h2 h3 h4 h5 h6 h D D' m' hD hD' hm1 hm2
    obtain ⟨D, rfl⟩ : ∃ E, D = E + 1 := ⟨D - 1, by omega⟩
    obtain ⟨D', rfl⟩ : ∃ E, D' = E + 1 := ⟨D' - 1, by omega⟩
    simp only [flat, ktp, if_neg (show k ≠ 9 by omega), List.map_map]
    congr 1
    refine List.map_congr_left fun i hi => ?_
    exact h i (by simpa using hi) D D' m' (by omega) (by omega) hm1 hm2
  · intro d n many h1 h2 h3 h4 h5 D D' m' hD hD' _ _
    obtain ⟨D, rfl⟩ : ∃ E, D = E + 1 := ⟨D - 1, by omega⟩
    obtain ⟨D', rfl⟩ : ∃ E, D' = E + 1 := ⟨D' - 1, by omega⟩
    simp only [flat, ktp, List.map_nil]
    rfl
  · intro d i hi h1 D D' m' hD hD' hm1 hm2
    obtain ⟨D, rfl⟩ : ∃ E, D = E + 1 := ⟨D - 1, by omega⟩
    obtain ⟨D', rfl⟩ : ∃ E, D' = E + 1 := ⟨D' - 1, by omega⟩
    have him : i < m := by rwa [known_len] at hi
    rw [known_get]
    simp only [flat, ktp, if_true]
    have g1 : (s.types m)[i]? = some (s.al i) := by
      rw [List.getElem?_eq_getElem (by rw [Sm.types_len]; exact him), Sm.types_get]
    have g2 : (s.types m')[i]? = some (s.al i) := by
      rw [List.getElem?_eq_getElem (by rw [Sm.types_len]; omega), Sm.types_get]
    rw [refAt_at him hm, refAt_at (m := m') (by omega) hm2, g1, g2]
    simp only
    rw [Sm.types_take s (by omega), Sm.types_take s (by omega)]
    exact IH i him D D' (by omega) (by omega)
include hf in
theorem al_flat : ∀ i, i ≤ 4 → ∀ D D' m', 3 + 3 * i ≤ D → 3 + 3 * i ≤ D' → i ≤ m' → m' ≤ 4 → flat D (s.types i) (s.al i).ty = flat D' (s.types m') (s.al i).ty := by
  intro i
  induction i using Nat.strongRecOn with
  | ind i ih =>
    intro hi
    exact typ_flat i hi (fun j hj D D' h1 h2 => ih j hj (by omega) D D' j h1 h2 (Nat.le_refl _) (by omega)) (by decide) (alias_fit hf i)
include hf in
theorem typ_dokc_up (m m' : Nat) (hmm : m ≤ m') (_hm : m' ≤ 4) {x : Nd} (hx : x.fit) {d : Nat} (hd : 1 ≤ d) : ∀ D, d + 3 * m' ≤ D → dokc D (s.types m') (Nd.typ d x (known m)) := by
  refine typ_ind (P := fun d y => ∀ D, d + 3 * m' ≤ D → dokc D (s.types m') y) (known m) ?_ ?_ ?_ ?_ ?_ ?_ d x hd hx
  · intro d k h1 h2 h3 D hD
    obtain ⟨D, rfl⟩ : ∃ D', D = D' + 1 := ⟨D - 1, by omega⟩
    exact ⟨fun e => by simp only [ktp] at e; omega, fun o ho => by cases ho⟩
  · intro d k h1 h2 h3 D hD
    obtain ⟨D, rfl⟩ : ∃ D', D = D' + 1 := ⟨D - 1, by omega⟩
    exact ⟨fun e => by simp only [ktp] at e; omega, fun o ho => by cases ho⟩
  · intro d k o h1 h2 h3 h D hD
    obtain ⟨D, rfl⟩ : ∃ D', D = D' + 1 := ⟨D - 1, by omega⟩
    exact ⟨fun e => by simp only [ktp] at e; omega, fun u hu => by simp only [ktp] at hu; rw [List.mem_singleton.1 hu]; exact h D (by omega)⟩
  · intro d k n many sub h1 h2 h3 h4 h5 h6 h D hD
    obtain ⟨D, rfl⟩ : ∃ D', D = D' + 1 := ⟨D - 1, by omega⟩
    refine ⟨fun e => by simp only [ktp] at e; omega, fun u hu => ?_⟩
    simp only [ktp] at hu
    obtain ⟨i, hi, rfl⟩ := List.mem_map.1 hu
    exact h i (by simpa using hi) D (by omega)
  · intro d n many h1 h2 h3 h4 h5 D hD
    obtain ⟨D, rfl⟩ : ∃ D', D = D' + 1 := ⟨D - 1, by omega⟩
    exact ⟨fun e => by simp only [ktp] at e; omega, fun o ho => by cases ho⟩
  · intro d i hi h1 D hD
    obtain ⟨D, rfl⟩ : ∃ D', D = D' + 1 := ⟨D - 1, by omega⟩
    have him : i < m := by rwa [known_len] at hi
    refine ⟨fun _ => ⟨rfl, ?_, fun j hj => ?_⟩, fun o ho => by cases ho⟩
    · simp only [ktp]
      rw [known_get]
      exact ref_hit (by omega)
    · rw [Sm.types_len] at hj
      rw [Sm.types_get, Sm.types_take s (by omega)]
      exact al_dokc hf j D (by omega)
/-- What a reference stands for is whole as the reference is. -/
theorem ref_name {x : KT} {m : Nat} (h9 : x.kind = 9) {D : Nat} (hd : dokc D (s.types m) x) (_hm : m ≤ 4) : ∃ i, i < m ∧ x.names = [tname i] := by
  cases D with
  | zero => exact hd.elim
  | succ D =>
  obtain ⟨h1, h2, _⟩ := hd.1 h9
  obtain ⟨n, hn⟩ := List.length_eq_one_iff.1 h1
  rw [hn] at h2 ⊢
  unfold refAt at h2
  rw [List.findIdx_lt_length] at h2
  obtain ⟨a, ha, hp⟩ := h2
  obtain ⟨i, hi, rfl⟩ := List.mem_map.1 ha
  simp only [List.length_singleton, decide_true, Bool.true_and, List.getD_cons_zero] at hp
  have hp' : (s.al i).name = n := seqB_iff.1 hp
  exact ⟨i, by simpa using hi, by rw [← hp']; rfl⟩
include hf in
theorem ref_whole {x : KT} (h9 : x.kind = 9) (hd : dokc 20 (s.types s.as) x) (hc : cnt 20 (s.types s.as) x ≤ 200) {j : Nat} (hj : j < s.as) (hn : seqB (tname j) (x.names.getD 0 (bs [])) = true) :
    (wholeM 20 (s.types s.as) (s.al j).ty 200).1.1 = flat 20 (s.types s.as) x := by
  have has := as_le s
  obtain ⟨i, hi, hx⟩ := ref_name h9 hd has
  rw [hx] at hn
  have hji : j = i := congrArg Fin.val (tname_inj ⟨j, by omega⟩ ⟨i, by omega⟩ hn)
  subst hji
  have g1 : (s.types s.as)[j]? = some (s.al j) := by
    rw [List.getElem?_eq_getElem (by rw [Sm.types_len]; exact hj), Sm.types_get]
  have hfx : flat 20 (s.types s.as) x = flat 20 (s.types s.as) (s.al j).ty := by
    rw [flat, if_pos h9, hx, refAt_at hj has, g1]
    simp only
    rw [Sm.types_take s (by omega)]
    exact al_flat hf j (by omega) 19 20 s.as (by omega) (by omega) (by omega) has
  have hda : dokc 20 (s.types s.as) (s.al j).ty := by
    exact typ_dokc_up hf j s.as (by omega) has (alias_fit hf j) (d := 3) (by decide) 20 (by omega)
  have hcc : cnt 20 (s.types s.as) (s.al j).ty = cnt 20 (s.types s.as) x := by
    rw [← (flat_plain hda).2, ← hfx, (flat_plain hd).2]
  rw [whole_few hda (by omega), hfx]
theorem find_own {k : Nat} (hk : k < s.ps) : Find s.tb.procs (s.pc k).number = some (s.pc k) := by
  unfold Find
  have hl : s.tb.procs = (List.range s.ps).map s.pc := rfl
  rw [hl, List.find?_map, Function.comp_def]
  have : (List.range s.ps).find? (fun x => (s.pc x).number == (s.pc k).number) = some k := by
    rw [List.find?_eq_some_iff_getElem]
    refine ⟨by simp, k, by simpa using hk, by simp, fun j hj => ?_⟩
    simp only [List.getElem_range, Sm.pc, Bool.not_eq_eq_eq_not, Bool.not_true, beq_eq_false_iff_ne, ne_eq]
    omega
  rw [this]; rfl
theorem find_any (l : List Pc) (n : Int) : (Find l n).isSome = l.any fun p => p.number == n := by
  unfold Find
  rw [List.isSome_find?]
def nowhere : ByteArray := bs [110, 111, 119, 104, 101, 114, 101]
theorem nowhere_t : ∀ i : Fin 4, seqB (tname i) nowhere = false := by decide +kernel
theorem whole_nowhere : wholeM 20 s.tb.types (.mk 9 0 [nowhere] []) 200 = ((KT.zero, 10), 200) := by
  have has := as_le s
  refine wholeM_none ?_
  unfold refAt
  rw [List.findIdx_lt_length]
  rintro ⟨a, ha, hp⟩
  obtain ⟨i, hi, rfl⟩ := List.mem_map.1 ha
  have hi' : i < s.as := by simpa using hi
  simp only [List.length_singleton, decide_true, Bool.true_and, List.getD_cons_zero] at hp
  have := nowhere_t ⟨i, by omega⟩
  rw [show seqB (tname i) nowhere = true from hp] at this
  cases this
theorem alike_version (t : TB) {v : Int} (h : v ≠ t.version) : t.alike { t with version := v } = false := by
  have : (t.version == v) = false := by simpa using fun e => h e.symm
  simp [TB.alike, this]
end
end Go.Pv
